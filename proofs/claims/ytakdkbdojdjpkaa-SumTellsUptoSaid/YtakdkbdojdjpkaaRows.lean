/-
  No cell of these rows narrows 'for every input' (looked for: loops, veiled, ifaces, maps, wideKeys, modest, calm, conditions, laid).
  DERIVED. THE GIVEN ROWS OF THIS SEAT. 10 by the template 'for every input the law returns true; each argument reads behind the call as it read before'; 0 by the template 'total and deterministic' (their statements: YtakdkbdojdjpkaaTotals.lean).
  GIVEN WITH THE SEED: the statements are not yours to turn. If you find one false, say at which input.
  Laid BY PROGRAM, IN A SANDBOX (cutbox-rows.mjs): the forced cells as the released guide's own fill.sh prints them over the translation 83710a6901984442… (all of the seat's roots in one cut). By AI agents, Wed Nov 11 2026. No macro, syntax, notation, axiom, sorry.
-/
import Derived.Test.YtakdkbdojdjpkaaChecked
import GoSem.Claim
import GoSem.ClaimJoined
import GoSem.ClaimMapViews
import Derived.JoinedTies
import Derived.KernelRfl
namespace Go.Proofs.Ytakdkbdojdjpkaa
/- THE CELL 'sum', in the pinned program and in every row, IS THE sha256 OF THE DUMP (.gsa) THAT YtakdkbdojdjpkaaProg.lean LOADS. Nothing in Lean hashes anything: it is a label: what it is worth is what the hold of that sum in a sandbox is worth. -/
noncomputable def Try.pinned : Pinned := { name := "ytakdkbdojdjpkaa", sum := "83710a6901984442e1aa071342867fb4ad7bcb52778e6c7a142d00ccdfe7ef8d", checked := Try.checked }
namespace Rows
def none {H : Type} : Left H := { results := [], args := [] }

/-- 'castellanlaw1.WordBounds': WHATEVER THE INPUT: true; the input reads as it did. -/
def wordBoundsSpec : ChangeSpec := { name := "wordBounds", fn := fun _ => fun
  | [d1, d2, d3] => { results := [.lit (.bool true)], args := [d1, d2, d3] }
  | _ => none }
def wordBoundsRow : OpenClaim := { program := "ytakdkbdojdjpkaa", sum := "83710a6901984442e1aa071342867fb4ad7bcb52778e6c7a142d00ccdfe7ef8d", func := "castellan/castellanlaw1.WordBounds", spec := "wordBounds", apart := false }
def WordBoundsSaid : Prop := wordBoundsRow.holds Try.pinned (OpenSpec.ofChange wordBoundsSpec)

/-- ITS FALSE NEIGHBOUR: 'it returns false'. Refute it at one input. -/
def wordBoundsWrong : ChangeSpec := { name := "wordBounds", fn := fun _ => fun
  | [d1, d2, d3] => { results := [.lit (.bool false)], args := [d1, d2, d3] }
  | _ => none }
def WordBoundsWrongFalsely : Prop := wordBoundsRow.holds Try.pinned (OpenSpec.ofChange wordBoundsWrong)

/-- 'castellanlaw1.WordHalves': WHATEVER THE INPUT: true; the input reads as it did. -/
def wordHalvesSpec : ChangeSpec := { name := "wordHalves", fn := fun _ => fun
  | [d1, d2] => { results := [.lit (.bool true)], args := [d1, d2] }
  | _ => none }
def wordHalvesRow : OpenClaim := { program := "ytakdkbdojdjpkaa", sum := "83710a6901984442e1aa071342867fb4ad7bcb52778e6c7a142d00ccdfe7ef8d", func := "castellan/castellanlaw1.WordHalves", spec := "wordHalves", apart := false }
def WordHalvesSaid : Prop := wordHalvesRow.holds Try.pinned (OpenSpec.ofChange wordHalvesSpec)

/-- ITS FALSE NEIGHBOUR: 'it returns false'. Refute it at one input. -/
def wordHalvesWrong : ChangeSpec := { name := "wordHalves", fn := fun _ => fun
  | [d1, d2] => { results := [.lit (.bool false)], args := [d1, d2] }
  | _ => none }
def WordHalvesWrongFalsely : Prop := wordHalvesRow.holds Try.pinned (OpenSpec.ofChange wordHalvesWrong)

/-- 'castellanlaw1.WordGets': WHATEVER THE INPUT: true; the input reads as it did. -/
def wordGetsSpec : ChangeSpec := { name := "wordGets", fn := fun _ => fun
  | [d1, d2, d3, d4] => { results := [.lit (.bool true)], args := [d1, d2, d3, d4] }
  | _ => none }
def wordGetsRow : OpenClaim := { program := "ytakdkbdojdjpkaa", sum := "83710a6901984442e1aa071342867fb4ad7bcb52778e6c7a142d00ccdfe7ef8d", func := "castellan/castellanlaw1.WordGets", spec := "wordGets", apart := false }
def WordGetsSaid : Prop := wordGetsRow.holds Try.pinned (OpenSpec.ofChange wordGetsSpec)

/-- ITS FALSE NEIGHBOUR: 'it returns false'. Refute it at one input. -/
def wordGetsWrong : ChangeSpec := { name := "wordGets", fn := fun _ => fun
  | [d1, d2, d3, d4] => { results := [.lit (.bool false)], args := [d1, d2, d3, d4] }
  | _ => none }
def WordGetsWrongFalsely : Prop := wordGetsRow.holds Try.pinned (OpenSpec.ofChange wordGetsWrong)

/-- 'castellanlaw2.SumOrder': WHATEVER THE INPUT: true; the input reads as it did. -/
def sumOrderSpec : ChangeSpec := { name := "sumOrder", fn := fun _ => fun
  | [d1, d2] => { results := [.lit (.bool true)], args := [d1, d2] }
  | _ => none }
def sumOrderRow : OpenClaim := { program := "ytakdkbdojdjpkaa", sum := "83710a6901984442e1aa071342867fb4ad7bcb52778e6c7a142d00ccdfe7ef8d", func := "castellan/castellanlaw2.SumOrder", spec := "sumOrder", apart := false }
def SumOrderSaid : Prop := sumOrderRow.holds Try.pinned (OpenSpec.ofChange sumOrderSpec)

/-- ITS FALSE NEIGHBOUR: 'it returns false'. Refute it at one input. -/
def sumOrderWrong : ChangeSpec := { name := "sumOrder", fn := fun _ => fun
  | [d1, d2] => { results := [.lit (.bool false)], args := [d1, d2] }
  | _ => none }
def SumOrderWrongFalsely : Prop := sumOrderRow.holds Try.pinned (OpenSpec.ofChange sumOrderWrong)

/-- 'castellanlaw2.SumNoughts': WHATEVER THE INPUT: true; the input reads as it did. -/
def sumNoughtsSpec : ChangeSpec := { name := "sumNoughts", fn := fun _ => fun
  | [d1, d2] => { results := [.lit (.bool true)], args := [d1, d2] }
  | _ => none }
def sumNoughtsRow : OpenClaim := { program := "ytakdkbdojdjpkaa", sum := "83710a6901984442e1aa071342867fb4ad7bcb52778e6c7a142d00ccdfe7ef8d", func := "castellan/castellanlaw2.SumNoughts", spec := "sumNoughts", apart := false }
def SumNoughtsSaid : Prop := sumNoughtsRow.holds Try.pinned (OpenSpec.ofChange sumNoughtsSpec)

/-- ITS FALSE NEIGHBOUR: 'it returns false'. Refute it at one input. -/
def sumNoughtsWrong : ChangeSpec := { name := "sumNoughts", fn := fun _ => fun
  | [d1, d2] => { results := [.lit (.bool false)], args := [d1, d2] }
  | _ => none }
def SumNoughtsWrongFalsely : Prop := sumNoughtsRow.holds Try.pinned (OpenSpec.ofChange sumNoughtsWrong)

/-- 'castellanlaw2.SumStands': WHATEVER THE INPUT: true; the input reads as it did. -/
def sumStandsSpec : ChangeSpec := { name := "sumStands", fn := fun _ => fun
  | [d1, d2, d3, d4] => { results := [.lit (.bool true)], args := [d1, d2, d3, d4] }
  | _ => none }
def sumStandsRow : OpenClaim := { program := "ytakdkbdojdjpkaa", sum := "83710a6901984442e1aa071342867fb4ad7bcb52778e6c7a142d00ccdfe7ef8d", func := "castellan/castellanlaw2.SumStands", spec := "sumStands", apart := false }
def SumStandsSaid : Prop := sumStandsRow.holds Try.pinned (OpenSpec.ofChange sumStandsSpec)

/-- ITS FALSE NEIGHBOUR: 'it returns false'. Refute it at one input. -/
def sumStandsWrong : ChangeSpec := { name := "sumStands", fn := fun _ => fun
  | [d1, d2, d3, d4] => { results := [.lit (.bool false)], args := [d1, d2, d3, d4] }
  | _ => none }
def SumStandsWrongFalsely : Prop := sumStandsRow.holds Try.pinned (OpenSpec.ofChange sumStandsWrong)

/-- 'castellanlaw2.SumTwice': WHATEVER THE INPUT: true; the input reads as it did. -/
def sumTwiceSpec : ChangeSpec := { name := "sumTwice", fn := fun _ => fun
  | [d1, d2, d3] => { results := [.lit (.bool true)], args := [d1, d2, d3] }
  | _ => none }
def sumTwiceRow : OpenClaim := { program := "ytakdkbdojdjpkaa", sum := "83710a6901984442e1aa071342867fb4ad7bcb52778e6c7a142d00ccdfe7ef8d", func := "castellan/castellanlaw2.SumTwice", spec := "sumTwice", apart := false }
def SumTwiceSaid : Prop := sumTwiceRow.holds Try.pinned (OpenSpec.ofChange sumTwiceSpec)

/-- ITS FALSE NEIGHBOUR: 'it returns false'. Refute it at one input. -/
def sumTwiceWrong : ChangeSpec := { name := "sumTwice", fn := fun _ => fun
  | [d1, d2, d3] => { results := [.lit (.bool false)], args := [d1, d2, d3] }
  | _ => none }
def SumTwiceWrongFalsely : Prop := sumTwiceRow.holds Try.pinned (OpenSpec.ofChange sumTwiceWrong)

/-- 'castellanlaw2.SumUpdates': WHATEVER THE INPUT: true; the input reads as it did. -/
def sumUpdatesSpec : ChangeSpec := { name := "sumUpdates", fn := fun _ => fun
  | [d1, d2, d3] => { results := [.lit (.bool true)], args := [d1, d2, d3] }
  | _ => none }
def sumUpdatesRow : OpenClaim := { program := "ytakdkbdojdjpkaa", sum := "83710a6901984442e1aa071342867fb4ad7bcb52778e6c7a142d00ccdfe7ef8d", func := "castellan/castellanlaw2.SumUpdates", spec := "sumUpdates", apart := false }
def SumUpdatesSaid : Prop := sumUpdatesRow.holds Try.pinned (OpenSpec.ofChange sumUpdatesSpec)

/-- ITS FALSE NEIGHBOUR: 'it returns false'. Refute it at one input. -/
def sumUpdatesWrong : ChangeSpec := { name := "sumUpdates", fn := fun _ => fun
  | [d1, d2, d3] => { results := [.lit (.bool false)], args := [d1, d2, d3] }
  | _ => none }
def SumUpdatesWrongFalsely : Prop := sumUpdatesRow.holds Try.pinned (OpenSpec.ofChange sumUpdatesWrong)

/-- 'castellanlaw1.WordBack': WHATEVER THE INPUT: true; the input reads as it did. -/
def wordBackSpec : ChangeSpec := { name := "wordBack", fn := fun _ => fun
  | [d1, d2, d3] => { results := [.lit (.bool true)], args := [d1, d2, d3] }
  | _ => none }
def wordBackRow : OpenClaim := { program := "ytakdkbdojdjpkaa", sum := "83710a6901984442e1aa071342867fb4ad7bcb52778e6c7a142d00ccdfe7ef8d", func := "castellan/castellanlaw1.WordBack", spec := "wordBack", apart := false }
def WordBackSaid : Prop := wordBackRow.holds Try.pinned (OpenSpec.ofChange wordBackSpec)

/-- ITS FALSE NEIGHBOUR: 'it returns false'. Refute it at one input. -/
def wordBackWrong : ChangeSpec := { name := "wordBack", fn := fun _ => fun
  | [d1, d2, d3] => { results := [.lit (.bool false)], args := [d1, d2, d3] }
  | _ => none }
def WordBackWrongFalsely : Prop := wordBackRow.holds Try.pinned (OpenSpec.ofChange wordBackWrong)

/-- 'castellanlaw2.SumTells': WHATEVER THE INPUT: true; the input reads as it did. -/
def sumTellsSpec : ChangeSpec := { name := "sumTells", fn := fun _ => fun
  | [d1, d2, d3, d4, d5, d6, d7, d8] => { results := [.lit (.bool true)], args := [d1, d2, d3, d4, d5, d6, d7, d8] }
  | _ => none }
def sumTellsRow : OpenClaim := { program := "ytakdkbdojdjpkaa", sum := "83710a6901984442e1aa071342867fb4ad7bcb52778e6c7a142d00ccdfe7ef8d", func := "castellan/castellanlaw2.SumTells", spec := "sumTells", apart := false }
def SumTellsSaid : Prop := sumTellsRow.holds Try.pinned (OpenSpec.ofChange sumTellsSpec)

/-- ITS FALSE NEIGHBOUR: 'it returns false'. Refute it at one input. -/
def sumTellsWrong : ChangeSpec := { name := "sumTells", fn := fun _ => fun
  | [d1, d2, d3, d4, d5, d6, d7, d8] => { results := [.lit (.bool false)], args := [d1, d2, d3, d4, d5, d6, d7, d8] }
  | _ => none }
def SumTellsWrongFalsely : Prop := sumTellsRow.holds Try.pinned (OpenSpec.ofChange sumTellsWrong)

/- THE SECOND FORM. 'bulk': how many values and letters a reading holds, each counted each time it is reached (what is shared counts as often as it is met; a slice's spare places count too). A statement '..UptoSaid' is the law's where the arguments, and the package variables that the reading takes, are together of bulk at most 1048576: NARROWER than '..Said'. Prove '..Said' where nothing that the law and all that it calls make is longer than what came in: it says more and counts as full. Else prove '..UptoSaid'. A law counts once. -/
mutual
def uptoBulk {H : Type} : DataW H → Nat
  | .lit (.string bytes) => bytes.length + 1
  | .lit _ => 1
  | .nil => 1
  | .ptr d => uptoBulk d + 1
  | .slice elems spare => uptoBulkAll elems + uptoBulkAll spare + 1
  | .agg parts => uptoBulkAll parts + 1
  | .iface _ d => uptoBulk d + 1
  | .map entries => uptoBulkEntries entries + 1
  | .held _ => 1
def uptoBulkAll {H : Type} : List (DataW H) → Nat
  | [] => 0
  | d :: r => uptoBulk d + uptoBulkAll r
def uptoBulkEntries {H : Type} : List (Lit × DataW H) → Nat
  | [] => 0
  | x :: r => uptoBulkEntry x + uptoBulkEntries r
def uptoBulkEntry {H : Type} : Lit × DataW H → Nat
  | (.string bytes, d) => bytes.length + uptoBulk d + 1
  | (_, d) => uptoBulk d + 1
 end
def uptoSmall : (H : Type) → List (DataW H) → Bool := fun _ ds => decide (uptoBulkAll ds ≤ 1048576)
def OpenSpec.upto (s : _root_.Go.ChangeSpec) : _root_.Go.OpenSpec := { _root_.Go.OpenSpec.ofChange s with cond := some uptoSmall }

/-- 'castellanlaw1.WordBounds', WHERE WHAT IT READS IS OF BULK AT MOST 1048576: true; the input reads as it did. -/
def wordBoundsUptoRow : OpenClaim := { program := "ytakdkbdojdjpkaa", sum := "83710a6901984442e1aa071342867fb4ad7bcb52778e6c7a142d00ccdfe7ef8d", func := "castellan/castellanlaw1.WordBounds", spec := "wordBounds", apart := false, narrowed := true }
def WordBoundsUptoSaid : Prop := wordBoundsUptoRow.holds Try.pinned (OpenSpec.upto wordBoundsSpec)

/-- 'castellanlaw1.WordHalves', WHERE WHAT IT READS IS OF BULK AT MOST 1048576: true; the input reads as it did. -/
def wordHalvesUptoRow : OpenClaim := { program := "ytakdkbdojdjpkaa", sum := "83710a6901984442e1aa071342867fb4ad7bcb52778e6c7a142d00ccdfe7ef8d", func := "castellan/castellanlaw1.WordHalves", spec := "wordHalves", apart := false, narrowed := true }
def WordHalvesUptoSaid : Prop := wordHalvesUptoRow.holds Try.pinned (OpenSpec.upto wordHalvesSpec)

/-- 'castellanlaw1.WordGets', WHERE WHAT IT READS IS OF BULK AT MOST 1048576: true; the input reads as it did. -/
def wordGetsUptoRow : OpenClaim := { program := "ytakdkbdojdjpkaa", sum := "83710a6901984442e1aa071342867fb4ad7bcb52778e6c7a142d00ccdfe7ef8d", func := "castellan/castellanlaw1.WordGets", spec := "wordGets", apart := false, narrowed := true }
def WordGetsUptoSaid : Prop := wordGetsUptoRow.holds Try.pinned (OpenSpec.upto wordGetsSpec)

/-- 'castellanlaw2.SumOrder', WHERE WHAT IT READS IS OF BULK AT MOST 1048576: true; the input reads as it did. -/
def sumOrderUptoRow : OpenClaim := { program := "ytakdkbdojdjpkaa", sum := "83710a6901984442e1aa071342867fb4ad7bcb52778e6c7a142d00ccdfe7ef8d", func := "castellan/castellanlaw2.SumOrder", spec := "sumOrder", apart := false, narrowed := true }
def SumOrderUptoSaid : Prop := sumOrderUptoRow.holds Try.pinned (OpenSpec.upto sumOrderSpec)

/-- 'castellanlaw2.SumNoughts', WHERE WHAT IT READS IS OF BULK AT MOST 1048576: true; the input reads as it did. -/
def sumNoughtsUptoRow : OpenClaim := { program := "ytakdkbdojdjpkaa", sum := "83710a6901984442e1aa071342867fb4ad7bcb52778e6c7a142d00ccdfe7ef8d", func := "castellan/castellanlaw2.SumNoughts", spec := "sumNoughts", apart := false, narrowed := true }
def SumNoughtsUptoSaid : Prop := sumNoughtsUptoRow.holds Try.pinned (OpenSpec.upto sumNoughtsSpec)

/-- 'castellanlaw2.SumStands', WHERE WHAT IT READS IS OF BULK AT MOST 1048576: true; the input reads as it did. -/
def sumStandsUptoRow : OpenClaim := { program := "ytakdkbdojdjpkaa", sum := "83710a6901984442e1aa071342867fb4ad7bcb52778e6c7a142d00ccdfe7ef8d", func := "castellan/castellanlaw2.SumStands", spec := "sumStands", apart := false, narrowed := true }
def SumStandsUptoSaid : Prop := sumStandsUptoRow.holds Try.pinned (OpenSpec.upto sumStandsSpec)

/-- 'castellanlaw2.SumTwice', WHERE WHAT IT READS IS OF BULK AT MOST 1048576: true; the input reads as it did. -/
def sumTwiceUptoRow : OpenClaim := { program := "ytakdkbdojdjpkaa", sum := "83710a6901984442e1aa071342867fb4ad7bcb52778e6c7a142d00ccdfe7ef8d", func := "castellan/castellanlaw2.SumTwice", spec := "sumTwice", apart := false, narrowed := true }
def SumTwiceUptoSaid : Prop := sumTwiceUptoRow.holds Try.pinned (OpenSpec.upto sumTwiceSpec)

/-- 'castellanlaw2.SumUpdates', WHERE WHAT IT READS IS OF BULK AT MOST 1048576: true; the input reads as it did. -/
def sumUpdatesUptoRow : OpenClaim := { program := "ytakdkbdojdjpkaa", sum := "83710a6901984442e1aa071342867fb4ad7bcb52778e6c7a142d00ccdfe7ef8d", func := "castellan/castellanlaw2.SumUpdates", spec := "sumUpdates", apart := false, narrowed := true }
def SumUpdatesUptoSaid : Prop := sumUpdatesUptoRow.holds Try.pinned (OpenSpec.upto sumUpdatesSpec)

/-- 'castellanlaw1.WordBack', WHERE WHAT IT READS IS OF BULK AT MOST 1048576: true; the input reads as it did. -/
def wordBackUptoRow : OpenClaim := { program := "ytakdkbdojdjpkaa", sum := "83710a6901984442e1aa071342867fb4ad7bcb52778e6c7a142d00ccdfe7ef8d", func := "castellan/castellanlaw1.WordBack", spec := "wordBack", apart := false, narrowed := true }
def WordBackUptoSaid : Prop := wordBackUptoRow.holds Try.pinned (OpenSpec.upto wordBackSpec)

/-- 'castellanlaw2.SumTells', WHERE WHAT IT READS IS OF BULK AT MOST 1048576: true; the input reads as it did. -/
def sumTellsUptoRow : OpenClaim := { program := "ytakdkbdojdjpkaa", sum := "83710a6901984442e1aa071342867fb4ad7bcb52778e6c7a142d00ccdfe7ef8d", func := "castellan/castellanlaw2.SumTells", spec := "sumTells", apart := false, narrowed := true }
def SumTellsUptoSaid : Prop := sumTellsUptoRow.holds Try.pinned (OpenSpec.upto sumTellsSpec)

end Rows
end Go.Proofs.Ytakdkbdojdjpkaa
