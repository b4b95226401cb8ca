/-
  No cell of these rows narrows 'for every input' (looked for: loops, veiled, ifaces, maps, wideKeys, modest, calm, conditions, laid).
  DERIVED. THE GIVEN ROWS OF THIS SEAT. 9 by the template 'for every input the law returns true; each argument reads behind the call as it read before'; 0 by the template 'total and deterministic' (their statements: YtkdibloahkhgoaaTotals.lean).
  GIVEN WITH THE SEED: the statements are not yours to turn. If you find one false, say at which input.
  Laid BY PROGRAM, IN A SANDBOX (cutbox-rows.mjs): the forced cells as the released guide's own fill.sh prints them over the translation 31d3220bbd332aec… (all of the seat's roots in one cut). By AI agents, Wed Nov 11 2026. No macro, syntax, notation, axiom, sorry.
-/
import Derived.Test.YtkdibloahkhgoaaChecked
import GoSem.Claim
import GoSem.ClaimJoined
import GoSem.ClaimMapViews
import Derived.JoinedTies
import Derived.KernelRfl
namespace Go.Proofs.Ytkdibloahkhgoaa
/- THE CELL 'sum', in the pinned program and in every row, IS THE sha256 OF THE DUMP (.gsa) THAT YtkdibloahkhgoaaProg.lean LOADS. Nothing in Lean hashes anything: it is a label: what it is worth is what the hold of that sum in a sandbox is worth. -/
noncomputable def Try.pinned : Pinned := { name := "ytkdibloahkhgoaa", sum := "31d3220bbd332aecf49c5856a8feed2dbedb027a77ef2b7410a3ab233704bdf3", checked := Try.checked }
namespace Rows
def none {H : Type} : Left H := { results := [], args := [] }

/-- 'castellanlaw19.ReplyMay': WHATEVER THE INPUT: true; the input reads as it did. -/
def replyMaySpec : ChangeSpec := { name := "replyMay", fn := fun _ => fun
  | [d1, d2, d3, d4] => { results := [.lit (.bool true)], args := [d1, d2, d3, d4] }
  | _ => none }
def replyMayRow : OpenClaim := { program := "ytkdibloahkhgoaa", sum := "31d3220bbd332aecf49c5856a8feed2dbedb027a77ef2b7410a3ab233704bdf3", func := "castellan/castellanlaw19.ReplyMay", spec := "replyMay", apart := false }
def ReplyMaySaid : Prop := replyMayRow.holds Try.pinned (OpenSpec.ofChange replyMaySpec)

/-- ITS FALSE NEIGHBOUR: 'it returns false'. Refute it at one input. -/
def replyMayWrong : ChangeSpec := { name := "replyMay", fn := fun _ => fun
  | [d1, d2, d3, d4] => { results := [.lit (.bool false)], args := [d1, d2, d3, d4] }
  | _ => none }
def ReplyMayWrongFalsely : Prop := replyMayRow.holds Try.pinned (OpenSpec.ofChange replyMayWrong)

/-- 'castellanlaw8.PackKeys': WHATEVER THE INPUT: true; the input reads as it did. -/
def packKeysSpec : ChangeSpec := { name := "packKeys", fn := fun _ => fun
  | [d1, d2, d3] => { results := [.lit (.bool true)], args := [d1, d2, d3] }
  | _ => none }
def packKeysRow : OpenClaim := { program := "ytkdibloahkhgoaa", sum := "31d3220bbd332aecf49c5856a8feed2dbedb027a77ef2b7410a3ab233704bdf3", func := "castellan/castellanlaw8.PackKeys", spec := "packKeys", apart := false }
def PackKeysSaid : Prop := packKeysRow.holds Try.pinned (OpenSpec.ofChange packKeysSpec)

/-- ITS FALSE NEIGHBOUR: 'it returns false'. Refute it at one input. -/
def packKeysWrong : ChangeSpec := { name := "packKeys", fn := fun _ => fun
  | [d1, d2, d3] => { results := [.lit (.bool false)], args := [d1, d2, d3] }
  | _ => none }
def PackKeysWrongFalsely : Prop := packKeysRow.holds Try.pinned (OpenSpec.ofChange packKeysWrong)

/-- 'castellanlaw19.ReplyPackets': WHATEVER THE INPUT: true; the input reads as it did. -/
def replyPacketsSpec : ChangeSpec := { name := "replyPackets", fn := fun _ => fun
  | [d1, d2, d3] => { results := [.lit (.bool true)], args := [d1, d2, d3] }
  | _ => none }
def replyPacketsRow : OpenClaim := { program := "ytkdibloahkhgoaa", sum := "31d3220bbd332aecf49c5856a8feed2dbedb027a77ef2b7410a3ab233704bdf3", func := "castellan/castellanlaw19.ReplyPackets", spec := "replyPackets", apart := false }
def ReplyPacketsSaid : Prop := replyPacketsRow.holds Try.pinned (OpenSpec.ofChange replyPacketsSpec)

/-- ITS FALSE NEIGHBOUR: 'it returns false'. Refute it at one input. -/
def replyPacketsWrong : ChangeSpec := { name := "replyPackets", fn := fun _ => fun
  | [d1, d2, d3] => { results := [.lit (.bool false)], args := [d1, d2, d3] }
  | _ => none }
def ReplyPacketsWrongFalsely : Prop := replyPacketsRow.holds Try.pinned (OpenSpec.ofChange replyPacketsWrong)

/-- 'castellanlaw19.ReplyBig': WHATEVER THE INPUT: true; the input reads as it did. -/
def replyBigSpec : ChangeSpec := { name := "replyBig", fn := fun _ => fun
  | [d1, d2, d3] => { results := [.lit (.bool true)], args := [d1, d2, d3] }
  | _ => none }
def replyBigRow : OpenClaim := { program := "ytkdibloahkhgoaa", sum := "31d3220bbd332aecf49c5856a8feed2dbedb027a77ef2b7410a3ab233704bdf3", func := "castellan/castellanlaw19.ReplyBig", spec := "replyBig", apart := false }
def ReplyBigSaid : Prop := replyBigRow.holds Try.pinned (OpenSpec.ofChange replyBigSpec)

/-- ITS FALSE NEIGHBOUR: 'it returns false'. Refute it at one input. -/
def replyBigWrong : ChangeSpec := { name := "replyBig", fn := fun _ => fun
  | [d1, d2, d3] => { results := [.lit (.bool false)], args := [d1, d2, d3] }
  | _ => none }
def ReplyBigWrongFalsely : Prop := replyBigRow.holds Try.pinned (OpenSpec.ofChange replyBigWrong)

/-- 'castellanlaw19.ReplyResets': WHATEVER THE INPUT: true; the input reads as it did. -/
def replyResetsSpec : ChangeSpec := { name := "replyResets", fn := fun _ => fun
  | [d1, d2, d3] => { results := [.lit (.bool true)], args := [d1, d2, d3] }
  | _ => none }
def replyResetsRow : OpenClaim := { program := "ytkdibloahkhgoaa", sum := "31d3220bbd332aecf49c5856a8feed2dbedb027a77ef2b7410a3ab233704bdf3", func := "castellan/castellanlaw19.ReplyResets", spec := "replyResets", apart := false }
def ReplyResetsSaid : Prop := replyResetsRow.holds Try.pinned (OpenSpec.ofChange replyResetsSpec)

/-- ITS FALSE NEIGHBOUR: 'it returns false'. Refute it at one input. -/
def replyResetsWrong : ChangeSpec := { name := "replyResets", fn := fun _ => fun
  | [d1, d2, d3] => { results := [.lit (.bool false)], args := [d1, d2, d3] }
  | _ => none }
def ReplyResetsWrongFalsely : Prop := replyResetsRow.holds Try.pinned (OpenSpec.ofChange replyResetsWrong)

/-- 'castellanlaw8.PackParses': WHATEVER THE INPUT: true; the input reads as it did. -/
def packParsesSpec : ChangeSpec := { name := "packParses", fn := fun _ => fun
  | [d] => { results := [.lit (.bool true)], args := [d] }
  | _ => none }
def packParsesRow : OpenClaim := { program := "ytkdibloahkhgoaa", sum := "31d3220bbd332aecf49c5856a8feed2dbedb027a77ef2b7410a3ab233704bdf3", func := "castellan/castellanlaw8.PackParses", spec := "packParses", apart := false }
def PackParsesSaid : Prop := packParsesRow.holds Try.pinned (OpenSpec.ofChange packParsesSpec)

/-- ITS FALSE NEIGHBOUR: 'it returns false'. Refute it at one input. -/
def packParsesWrong : ChangeSpec := { name := "packParses", fn := fun _ => fun
  | [d] => { results := [.lit (.bool false)], args := [d] }
  | _ => none }
def PackParsesWrongFalsely : Prop := packParsesRow.holds Try.pinned (OpenSpec.ofChange packParsesWrong)

/-- 'castellanlaw8.PackInner': WHATEVER THE INPUT: true; the input reads as it did. -/
def packInnerSpec : ChangeSpec := { name := "packInner", fn := fun _ => fun
  | [d1, d2, d3, d4] => { results := [.lit (.bool true)], args := [d1, d2, d3, d4] }
  | _ => none }
def packInnerRow : OpenClaim := { program := "ytkdibloahkhgoaa", sum := "31d3220bbd332aecf49c5856a8feed2dbedb027a77ef2b7410a3ab233704bdf3", func := "castellan/castellanlaw8.PackInner", spec := "packInner", apart := false }
def PackInnerSaid : Prop := packInnerRow.holds Try.pinned (OpenSpec.ofChange packInnerSpec)

/-- ITS FALSE NEIGHBOUR: 'it returns false'. Refute it at one input. -/
def packInnerWrong : ChangeSpec := { name := "packInner", fn := fun _ => fun
  | [d1, d2, d3, d4] => { results := [.lit (.bool false)], args := [d1, d2, d3, d4] }
  | _ => none }
def PackInnerWrongFalsely : Prop := packInnerRow.holds Try.pinned (OpenSpec.ofChange packInnerWrong)

/-- 'castellanlaw8.PackFirst': WHATEVER THE INPUT: true; the input reads as it did. -/
def packFirstSpec : ChangeSpec := { name := "packFirst", fn := fun _ => fun
  | [d1, d2, d3, d4] => { results := [.lit (.bool true)], args := [d1, d2, d3, d4] }
  | _ => none }
def packFirstRow : OpenClaim := { program := "ytkdibloahkhgoaa", sum := "31d3220bbd332aecf49c5856a8feed2dbedb027a77ef2b7410a3ab233704bdf3", func := "castellan/castellanlaw8.PackFirst", spec := "packFirst", apart := false }
def PackFirstSaid : Prop := packFirstRow.holds Try.pinned (OpenSpec.ofChange packFirstSpec)

/-- ITS FALSE NEIGHBOUR: 'it returns false'. Refute it at one input. -/
def packFirstWrong : ChangeSpec := { name := "packFirst", fn := fun _ => fun
  | [d1, d2, d3, d4] => { results := [.lit (.bool false)], args := [d1, d2, d3, d4] }
  | _ => none }
def PackFirstWrongFalsely : Prop := packFirstRow.holds Try.pinned (OpenSpec.ofChange packFirstWrong)

/-- 'castellanlaw8.PackPorts': WHATEVER THE INPUT: true; the input reads as it did. -/
def packPortsSpec : ChangeSpec := { name := "packPorts", fn := fun _ => fun
  | [d1, d2, d3, d4] => { results := [.lit (.bool true)], args := [d1, d2, d3, d4] }
  | _ => none }
def packPortsRow : OpenClaim := { program := "ytkdibloahkhgoaa", sum := "31d3220bbd332aecf49c5856a8feed2dbedb027a77ef2b7410a3ab233704bdf3", func := "castellan/castellanlaw8.PackPorts", spec := "packPorts", apart := false }
def PackPortsSaid : Prop := packPortsRow.holds Try.pinned (OpenSpec.ofChange packPortsSpec)

/-- ITS FALSE NEIGHBOUR: 'it returns false'. Refute it at one input. -/
def packPortsWrong : ChangeSpec := { name := "packPorts", fn := fun _ => fun
  | [d1, d2, d3, d4] => { results := [.lit (.bool false)], args := [d1, d2, d3, d4] }
  | _ => none }
def PackPortsWrongFalsely : Prop := packPortsRow.holds Try.pinned (OpenSpec.ofChange packPortsWrong)

/- THE SECOND FORM. 'bulk': how many values and letters a reading holds, each counted each time it is reached (what is shared counts as often as it is met; a slice's spare places count too). A statement '..UptoSaid' is the law's where the arguments, and the package variables that the reading takes, are together of bulk at most 1048576: NARROWER than '..Said'. Prove '..Said' where nothing that the law and all that it calls make is longer than what came in: it says more and counts as full. Else prove '..UptoSaid'. A law counts once. -/
mutual
def uptoBulk {H : Type} : DataW H → Nat
  | .lit (.string bytes) => bytes.length + 1
  | .lit _ => 1
  | .nil => 1
  | .ptr d => uptoBulk d + 1
  | .slice elems spare => uptoBulkAll elems + uptoBulkAll spare + 1
  | .agg parts => uptoBulkAll parts + 1
  | .iface _ d => uptoBulk d + 1
  | .map entries => uptoBulkEntries entries + 1
  | .held _ => 1
def uptoBulkAll {H : Type} : List (DataW H) → Nat
  | [] => 0
  | d :: r => uptoBulk d + uptoBulkAll r
def uptoBulkEntries {H : Type} : List (Lit × DataW H) → Nat
  | [] => 0
  | x :: r => uptoBulkEntry x + uptoBulkEntries r
def uptoBulkEntry {H : Type} : Lit × DataW H → Nat
  | (.string bytes, d) => bytes.length + uptoBulk d + 1
  | (_, d) => uptoBulk d + 1
 end
def uptoSmall : (H : Type) → List (DataW H) → Bool := fun _ ds => decide (uptoBulkAll ds ≤ 1048576)
def OpenSpec.upto (s : _root_.Go.ChangeSpec) : _root_.Go.OpenSpec := { _root_.Go.OpenSpec.ofChange s with cond := some uptoSmall }

/-- 'castellanlaw19.ReplyMay', WHERE WHAT IT READS IS OF BULK AT MOST 1048576: true; the input reads as it did. -/
def replyMayUptoRow : OpenClaim := { program := "ytkdibloahkhgoaa", sum := "31d3220bbd332aecf49c5856a8feed2dbedb027a77ef2b7410a3ab233704bdf3", func := "castellan/castellanlaw19.ReplyMay", spec := "replyMay", apart := false, narrowed := true }
def ReplyMayUptoSaid : Prop := replyMayUptoRow.holds Try.pinned (OpenSpec.upto replyMaySpec)

/-- 'castellanlaw8.PackKeys', WHERE WHAT IT READS IS OF BULK AT MOST 1048576: true; the input reads as it did. -/
def packKeysUptoRow : OpenClaim := { program := "ytkdibloahkhgoaa", sum := "31d3220bbd332aecf49c5856a8feed2dbedb027a77ef2b7410a3ab233704bdf3", func := "castellan/castellanlaw8.PackKeys", spec := "packKeys", apart := false, narrowed := true }
def PackKeysUptoSaid : Prop := packKeysUptoRow.holds Try.pinned (OpenSpec.upto packKeysSpec)

/-- 'castellanlaw19.ReplyPackets', WHERE WHAT IT READS IS OF BULK AT MOST 1048576: true; the input reads as it did. -/
def replyPacketsUptoRow : OpenClaim := { program := "ytkdibloahkhgoaa", sum := "31d3220bbd332aecf49c5856a8feed2dbedb027a77ef2b7410a3ab233704bdf3", func := "castellan/castellanlaw19.ReplyPackets", spec := "replyPackets", apart := false, narrowed := true }
def ReplyPacketsUptoSaid : Prop := replyPacketsUptoRow.holds Try.pinned (OpenSpec.upto replyPacketsSpec)

/-- 'castellanlaw19.ReplyBig', WHERE WHAT IT READS IS OF BULK AT MOST 1048576: true; the input reads as it did. -/
def replyBigUptoRow : OpenClaim := { program := "ytkdibloahkhgoaa", sum := "31d3220bbd332aecf49c5856a8feed2dbedb027a77ef2b7410a3ab233704bdf3", func := "castellan/castellanlaw19.ReplyBig", spec := "replyBig", apart := false, narrowed := true }
def ReplyBigUptoSaid : Prop := replyBigUptoRow.holds Try.pinned (OpenSpec.upto replyBigSpec)

/-- 'castellanlaw19.ReplyResets', WHERE WHAT IT READS IS OF BULK AT MOST 1048576: true; the input reads as it did. -/
def replyResetsUptoRow : OpenClaim := { program := "ytkdibloahkhgoaa", sum := "31d3220bbd332aecf49c5856a8feed2dbedb027a77ef2b7410a3ab233704bdf3", func := "castellan/castellanlaw19.ReplyResets", spec := "replyResets", apart := false, narrowed := true }
def ReplyResetsUptoSaid : Prop := replyResetsUptoRow.holds Try.pinned (OpenSpec.upto replyResetsSpec)

/-- 'castellanlaw8.PackParses', WHERE WHAT IT READS IS OF BULK AT MOST 1048576: true; the input reads as it did. -/
def packParsesUptoRow : OpenClaim := { program := "ytkdibloahkhgoaa", sum := "31d3220bbd332aecf49c5856a8feed2dbedb027a77ef2b7410a3ab233704bdf3", func := "castellan/castellanlaw8.PackParses", spec := "packParses", apart := false, narrowed := true }
def PackParsesUptoSaid : Prop := packParsesUptoRow.holds Try.pinned (OpenSpec.upto packParsesSpec)

/-- 'castellanlaw8.PackInner', WHERE WHAT IT READS IS OF BULK AT MOST 1048576: true; the input reads as it did. -/
def packInnerUptoRow : OpenClaim := { program := "ytkdibloahkhgoaa", sum := "31d3220bbd332aecf49c5856a8feed2dbedb027a77ef2b7410a3ab233704bdf3", func := "castellan/castellanlaw8.PackInner", spec := "packInner", apart := false, narrowed := true }
def PackInnerUptoSaid : Prop := packInnerUptoRow.holds Try.pinned (OpenSpec.upto packInnerSpec)

/-- 'castellanlaw8.PackFirst', WHERE WHAT IT READS IS OF BULK AT MOST 1048576: true; the input reads as it did. -/
def packFirstUptoRow : OpenClaim := { program := "ytkdibloahkhgoaa", sum := "31d3220bbd332aecf49c5856a8feed2dbedb027a77ef2b7410a3ab233704bdf3", func := "castellan/castellanlaw8.PackFirst", spec := "packFirst", apart := false, narrowed := true }
def PackFirstUptoSaid : Prop := packFirstUptoRow.holds Try.pinned (OpenSpec.upto packFirstSpec)

/-- 'castellanlaw8.PackPorts', WHERE WHAT IT READS IS OF BULK AT MOST 1048576: true; the input reads as it did. -/
def packPortsUptoRow : OpenClaim := { program := "ytkdibloahkhgoaa", sum := "31d3220bbd332aecf49c5856a8feed2dbedb027a77ef2b7410a3ab233704bdf3", func := "castellan/castellanlaw8.PackPorts", spec := "packPorts", apart := false, narrowed := true }
def PackPortsUptoSaid : Prop := packPortsUptoRow.holds Try.pinned (OpenSpec.upto packPortsSpec)

end Rows
end Go.Proofs.Ytkdibloahkhgoaa
