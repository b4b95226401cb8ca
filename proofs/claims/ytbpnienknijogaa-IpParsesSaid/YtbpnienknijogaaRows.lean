/-
  No cell of these rows narrows 'for every input' (looked for: loops, veiled, ifaces, maps, wideKeys, modest, calm, conditions, laid).
  DERIVED. THE GIVEN ROWS OF THIS SEAT. 12 by the template 'for every input the law returns true; each argument reads behind the call as it read before'; 0 by the template 'total and deterministic' (their statements: YtbpnienknijogaaTotals.lean).
  GIVEN WITH THE SEED: the statements are not yours to turn. If you find one false, say at which input.
  Laid BY PROGRAM, IN A SANDBOX (cutbox-rows.mjs): the forced cells as the released guide's own fill.sh prints them over the translation 45219169edea9f27… (all of the seat's roots in one cut). By AI agents, Wed Nov 11 2026. No macro, syntax, notation, axiom, sorry.
-/
import Derived.Test.YtbpnienknijogaaChecked
import GoSem.Claim
import GoSem.ClaimJoined
import GoSem.ClaimMapViews
import Derived.JoinedTies
import Derived.KernelRfl
namespace Go.Proofs.Ytbpnienknijogaa
/- THE CELL 'sum', in the pinned program and in every row, IS THE sha256 OF THE DUMP (.gsa) THAT YtbpnienknijogaaProg.lean LOADS. Nothing in Lean hashes anything: it is a label: what it is worth is what the hold of that sum in a sandbox is worth. -/
noncomputable def Try.pinned : Pinned := { name := "ytbpnienknijogaa", sum := "45219169edea9f27ee10a7198b9ee632571dcf79dca928aad93d9fa36cee9d41", checked := Try.checked }
namespace Rows
def none {H : Type} : Left H := { results := [], args := [] }

/-- 'castellanlaw6.UdpBack': WHATEVER THE INPUT: true; the input reads as it did. -/
def udpBackSpec : ChangeSpec := { name := "udpBack", fn := fun _ => fun
  | [d1, d2, d3, d4, d5, d6] => { results := [.lit (.bool true)], args := [d1, d2, d3, d4, d5, d6] }
  | _ => none }
def udpBackRow : OpenClaim := { program := "ytbpnienknijogaa", sum := "45219169edea9f27ee10a7198b9ee632571dcf79dca928aad93d9fa36cee9d41", func := "castellan/castellanlaw6.UdpBack", spec := "udpBack", apart := false }
def UdpBackSaid : Prop := udpBackRow.holds Try.pinned (OpenSpec.ofChange udpBackSpec)

/-- ITS FALSE NEIGHBOUR: 'it returns false'. Refute it at one input. -/
def udpBackWrong : ChangeSpec := { name := "udpBack", fn := fun _ => fun
  | [d1, d2, d3, d4, d5, d6] => { results := [.lit (.bool false)], args := [d1, d2, d3, d4, d5, d6] }
  | _ => none }
def UdpBackWrongFalsely : Prop := udpBackRow.holds Try.pinned (OpenSpec.ofChange udpBackWrong)

/-- 'castellanlaw6.UdpCut': WHATEVER THE INPUT: true; the input reads as it did. -/
def udpCutSpec : ChangeSpec := { name := "udpCut", fn := fun _ => fun
  | [d1, d2] => { results := [.lit (.bool true)], args := [d1, d2] }
  | _ => none }
def udpCutRow : OpenClaim := { program := "ytbpnienknijogaa", sum := "45219169edea9f27ee10a7198b9ee632571dcf79dca928aad93d9fa36cee9d41", func := "castellan/castellanlaw6.UdpCut", spec := "udpCut", apart := false }
def UdpCutSaid : Prop := udpCutRow.holds Try.pinned (OpenSpec.ofChange udpCutSpec)

/-- ITS FALSE NEIGHBOUR: 'it returns false'. Refute it at one input. -/
def udpCutWrong : ChangeSpec := { name := "udpCut", fn := fun _ => fun
  | [d1, d2] => { results := [.lit (.bool false)], args := [d1, d2] }
  | _ => none }
def UdpCutWrongFalsely : Prop := udpCutRow.holds Try.pinned (OpenSpec.ofChange udpCutWrong)

/-- 'castellanlaw6.UdpBounds': WHATEVER THE INPUT: true; the input reads as it did. -/
def udpBoundsSpec : ChangeSpec := { name := "udpBounds", fn := fun _ => fun
  | [d1, d2] => { results := [.lit (.bool true)], args := [d1, d2] }
  | _ => none }
def udpBoundsRow : OpenClaim := { program := "ytbpnienknijogaa", sum := "45219169edea9f27ee10a7198b9ee632571dcf79dca928aad93d9fa36cee9d41", func := "castellan/castellanlaw6.UdpBounds", spec := "udpBounds", apart := false }
def UdpBoundsSaid : Prop := udpBoundsRow.holds Try.pinned (OpenSpec.ofChange udpBoundsSpec)

/-- ITS FALSE NEIGHBOUR: 'it returns false'. Refute it at one input. -/
def udpBoundsWrong : ChangeSpec := { name := "udpBounds", fn := fun _ => fun
  | [d1, d2] => { results := [.lit (.bool false)], args := [d1, d2] }
  | _ => none }
def UdpBoundsWrongFalsely : Prop := udpBoundsRow.holds Try.pinned (OpenSpec.ofChange udpBoundsWrong)

/-- 'castellanlaw6.UdpTells': WHATEVER THE INPUT: true; the input reads as it did. -/
def udpTellsSpec : ChangeSpec := { name := "udpTells", fn := fun _ => fun
  | [d1, d2, d3, d4, d5] => { results := [.lit (.bool true)], args := [d1, d2, d3, d4, d5] }
  | _ => none }
def udpTellsRow : OpenClaim := { program := "ytbpnienknijogaa", sum := "45219169edea9f27ee10a7198b9ee632571dcf79dca928aad93d9fa36cee9d41", func := "castellan/castellanlaw6.UdpTells", spec := "udpTells", apart := false }
def UdpTellsSaid : Prop := udpTellsRow.holds Try.pinned (OpenSpec.ofChange udpTellsSpec)

/-- ITS FALSE NEIGHBOUR: 'it returns false'. Refute it at one input. -/
def udpTellsWrong : ChangeSpec := { name := "udpTells", fn := fun _ => fun
  | [d1, d2, d3, d4, d5] => { results := [.lit (.bool false)], args := [d1, d2, d3, d4, d5] }
  | _ => none }
def UdpTellsWrongFalsely : Prop := udpTellsRow.holds Try.pinned (OpenSpec.ofChange udpTellsWrong)

/-- 'castellanlaw4.IpParses': WHATEVER THE INPUT: true; the input reads as it did. -/
def ipParsesSpec : ChangeSpec := { name := "ipParses", fn := fun _ => fun
  | [d] => { results := [.lit (.bool true)], args := [d] }
  | _ => none }
def ipParsesRow : OpenClaim := { program := "ytbpnienknijogaa", sum := "45219169edea9f27ee10a7198b9ee632571dcf79dca928aad93d9fa36cee9d41", func := "castellan/castellanlaw4.IpParses", spec := "ipParses", apart := false }
def IpParsesSaid : Prop := ipParsesRow.holds Try.pinned (OpenSpec.ofChange ipParsesSpec)

/-- ITS FALSE NEIGHBOUR: 'it returns false'. Refute it at one input. -/
def ipParsesWrong : ChangeSpec := { name := "ipParses", fn := fun _ => fun
  | [d] => { results := [.lit (.bool false)], args := [d] }
  | _ => none }
def IpParsesWrongFalsely : Prop := ipParsesRow.holds Try.pinned (OpenSpec.ofChange ipParsesWrong)

/-- 'castellanlaw4.IpBack': WHATEVER THE INPUT: true; the input reads as it did. -/
def ipBackSpec : ChangeSpec := { name := "ipBack", fn := fun _ => fun
  | [d1, d2] => { results := [.lit (.bool true)], args := [d1, d2] }
  | _ => none }
def ipBackRow : OpenClaim := { program := "ytbpnienknijogaa", sum := "45219169edea9f27ee10a7198b9ee632571dcf79dca928aad93d9fa36cee9d41", func := "castellan/castellanlaw4.IpBack", spec := "ipBack", apart := false }
def IpBackSaid : Prop := ipBackRow.holds Try.pinned (OpenSpec.ofChange ipBackSpec)

/-- ITS FALSE NEIGHBOUR: 'it returns false'. Refute it at one input. -/
def ipBackWrong : ChangeSpec := { name := "ipBack", fn := fun _ => fun
  | [d1, d2] => { results := [.lit (.bool false)], args := [d1, d2] }
  | _ => none }
def IpBackWrongFalsely : Prop := ipBackRow.holds Try.pinned (OpenSpec.ofChange ipBackWrong)

/-- 'castellanlaw4.IpTurned': WHATEVER THE INPUT: true; the input reads as it did. -/
def ipTurnedSpec : ChangeSpec := { name := "ipTurned", fn := fun _ => fun
  | [d1, d2, d3] => { results := [.lit (.bool true)], args := [d1, d2, d3] }
  | _ => none }
def ipTurnedRow : OpenClaim := { program := "ytbpnienknijogaa", sum := "45219169edea9f27ee10a7198b9ee632571dcf79dca928aad93d9fa36cee9d41", func := "castellan/castellanlaw4.IpTurned", spec := "ipTurned", apart := false }
def IpTurnedSaid : Prop := ipTurnedRow.holds Try.pinned (OpenSpec.ofChange ipTurnedSpec)

/-- ITS FALSE NEIGHBOUR: 'it returns false'. Refute it at one input. -/
def ipTurnedWrong : ChangeSpec := { name := "ipTurned", fn := fun _ => fun
  | [d1, d2, d3] => { results := [.lit (.bool false)], args := [d1, d2, d3] }
  | _ => none }
def IpTurnedWrongFalsely : Prop := ipTurnedRow.holds Try.pinned (OpenSpec.ofChange ipTurnedWrong)

/-- 'castellanlaw4.IpCut': WHATEVER THE INPUT: true; the input reads as it did. -/
def ipCutSpec : ChangeSpec := { name := "ipCut", fn := fun _ => fun
  | [d1, d2] => { results := [.lit (.bool true)], args := [d1, d2] }
  | _ => none }
def ipCutRow : OpenClaim := { program := "ytbpnienknijogaa", sum := "45219169edea9f27ee10a7198b9ee632571dcf79dca928aad93d9fa36cee9d41", func := "castellan/castellanlaw4.IpCut", spec := "ipCut", apart := false }
def IpCutSaid : Prop := ipCutRow.holds Try.pinned (OpenSpec.ofChange ipCutSpec)

/-- ITS FALSE NEIGHBOUR: 'it returns false'. Refute it at one input. -/
def ipCutWrong : ChangeSpec := { name := "ipCut", fn := fun _ => fun
  | [d1, d2] => { results := [.lit (.bool false)], args := [d1, d2] }
  | _ => none }
def IpCutWrongFalsely : Prop := ipCutRow.holds Try.pinned (OpenSpec.ofChange ipCutWrong)

/-- 'castellanlaw4.IpBounds': WHATEVER THE INPUT: true; the input reads as it did. -/
def ipBoundsSpec : ChangeSpec := { name := "ipBounds", fn := fun _ => fun
  | [d1, d2] => { results := [.lit (.bool true)], args := [d1, d2] }
  | _ => none }
def ipBoundsRow : OpenClaim := { program := "ytbpnienknijogaa", sum := "45219169edea9f27ee10a7198b9ee632571dcf79dca928aad93d9fa36cee9d41", func := "castellan/castellanlaw4.IpBounds", spec := "ipBounds", apart := false }
def IpBoundsSaid : Prop := ipBoundsRow.holds Try.pinned (OpenSpec.ofChange ipBoundsSpec)

/-- ITS FALSE NEIGHBOUR: 'it returns false'. Refute it at one input. -/
def ipBoundsWrong : ChangeSpec := { name := "ipBounds", fn := fun _ => fun
  | [d1, d2] => { results := [.lit (.bool false)], args := [d1, d2] }
  | _ => none }
def IpBoundsWrongFalsely : Prop := ipBoundsRow.holds Try.pinned (OpenSpec.ofChange ipBoundsWrong)

/-- 'castellanlaw4.IpBuilds': WHATEVER THE INPUT: true; the input reads as it did. -/
def ipBuildsSpec : ChangeSpec := { name := "ipBuilds", fn := fun _ => fun
  | [d1, d2] => { results := [.lit (.bool true)], args := [d1, d2] }
  | _ => none }
def ipBuildsRow : OpenClaim := { program := "ytbpnienknijogaa", sum := "45219169edea9f27ee10a7198b9ee632571dcf79dca928aad93d9fa36cee9d41", func := "castellan/castellanlaw4.IpBuilds", spec := "ipBuilds", apart := false }
def IpBuildsSaid : Prop := ipBuildsRow.holds Try.pinned (OpenSpec.ofChange ipBuildsSpec)

/-- ITS FALSE NEIGHBOUR: 'it returns false'. Refute it at one input. -/
def ipBuildsWrong : ChangeSpec := { name := "ipBuilds", fn := fun _ => fun
  | [d1, d2] => { results := [.lit (.bool false)], args := [d1, d2] }
  | _ => none }
def IpBuildsWrongFalsely : Prop := ipBuildsRow.holds Try.pinned (OpenSpec.ofChange ipBuildsWrong)

/-- 'castellanlaw4.IpLess': WHATEVER THE INPUT: true; the input reads as it did. -/
def ipLessSpec : ChangeSpec := { name := "ipLess", fn := fun _ => fun
  | [d] => { results := [.lit (.bool true)], args := [d] }
  | _ => none }
def ipLessRow : OpenClaim := { program := "ytbpnienknijogaa", sum := "45219169edea9f27ee10a7198b9ee632571dcf79dca928aad93d9fa36cee9d41", func := "castellan/castellanlaw4.IpLess", spec := "ipLess", apart := false }
def IpLessSaid : Prop := ipLessRow.holds Try.pinned (OpenSpec.ofChange ipLessSpec)

/-- ITS FALSE NEIGHBOUR: 'it returns false'. Refute it at one input. -/
def ipLessWrong : ChangeSpec := { name := "ipLess", fn := fun _ => fun
  | [d] => { results := [.lit (.bool false)], args := [d] }
  | _ => none }
def IpLessWrongFalsely : Prop := ipLessRow.holds Try.pinned (OpenSpec.ofChange ipLessWrong)

/-- 'castellanlaw4.IpTwice': WHATEVER THE INPUT: true; the input reads as it did. -/
def ipTwiceSpec : ChangeSpec := { name := "ipTwice", fn := fun _ => fun
  | [d] => { results := [.lit (.bool true)], args := [d] }
  | _ => none }
def ipTwiceRow : OpenClaim := { program := "ytbpnienknijogaa", sum := "45219169edea9f27ee10a7198b9ee632571dcf79dca928aad93d9fa36cee9d41", func := "castellan/castellanlaw4.IpTwice", spec := "ipTwice", apart := false }
def IpTwiceSaid : Prop := ipTwiceRow.holds Try.pinned (OpenSpec.ofChange ipTwiceSpec)

/-- ITS FALSE NEIGHBOUR: 'it returns false'. Refute it at one input. -/
def ipTwiceWrong : ChangeSpec := { name := "ipTwice", fn := fun _ => fun
  | [d] => { results := [.lit (.bool false)], args := [d] }
  | _ => none }
def IpTwiceWrongFalsely : Prop := ipTwiceRow.holds Try.pinned (OpenSpec.ofChange ipTwiceWrong)

/- THE SECOND FORM. 'bulk': how many values and letters a reading holds, each counted each time it is reached (what is shared counts as often as it is met; a slice's spare places count too). A statement '..UptoSaid' is the law's where the arguments, and the package variables that the reading takes, are together of bulk at most 1048576: NARROWER than '..Said'. Prove '..Said' where nothing that the law and all that it calls make is longer than what came in: it says more and counts as full. Else prove '..UptoSaid'. A law counts once. -/
mutual
def uptoBulk {H : Type} : DataW H → Nat
  | .lit (.string bytes) => bytes.length + 1
  | .lit _ => 1
  | .nil => 1
  | .ptr d => uptoBulk d + 1
  | .slice elems spare => uptoBulkAll elems + uptoBulkAll spare + 1
  | .agg parts => uptoBulkAll parts + 1
  | .iface _ d => uptoBulk d + 1
  | .map entries => uptoBulkEntries entries + 1
  | .held _ => 1
def uptoBulkAll {H : Type} : List (DataW H) → Nat
  | [] => 0
  | d :: r => uptoBulk d + uptoBulkAll r
def uptoBulkEntries {H : Type} : List (Lit × DataW H) → Nat
  | [] => 0
  | x :: r => uptoBulkEntry x + uptoBulkEntries r
def uptoBulkEntry {H : Type} : Lit × DataW H → Nat
  | (.string bytes, d) => bytes.length + uptoBulk d + 1
  | (_, d) => uptoBulk d + 1
 end
def uptoSmall : (H : Type) → List (DataW H) → Bool := fun _ ds => decide (uptoBulkAll ds ≤ 1048576)
def OpenSpec.upto (s : _root_.Go.ChangeSpec) : _root_.Go.OpenSpec := { _root_.Go.OpenSpec.ofChange s with cond := some uptoSmall }

/-- 'castellanlaw6.UdpBack', WHERE WHAT IT READS IS OF BULK AT MOST 1048576: true; the input reads as it did. -/
def udpBackUptoRow : OpenClaim := { program := "ytbpnienknijogaa", sum := "45219169edea9f27ee10a7198b9ee632571dcf79dca928aad93d9fa36cee9d41", func := "castellan/castellanlaw6.UdpBack", spec := "udpBack", apart := false, narrowed := true }
def UdpBackUptoSaid : Prop := udpBackUptoRow.holds Try.pinned (OpenSpec.upto udpBackSpec)

/-- 'castellanlaw6.UdpCut', WHERE WHAT IT READS IS OF BULK AT MOST 1048576: true; the input reads as it did. -/
def udpCutUptoRow : OpenClaim := { program := "ytbpnienknijogaa", sum := "45219169edea9f27ee10a7198b9ee632571dcf79dca928aad93d9fa36cee9d41", func := "castellan/castellanlaw6.UdpCut", spec := "udpCut", apart := false, narrowed := true }
def UdpCutUptoSaid : Prop := udpCutUptoRow.holds Try.pinned (OpenSpec.upto udpCutSpec)

/-- 'castellanlaw6.UdpBounds', WHERE WHAT IT READS IS OF BULK AT MOST 1048576: true; the input reads as it did. -/
def udpBoundsUptoRow : OpenClaim := { program := "ytbpnienknijogaa", sum := "45219169edea9f27ee10a7198b9ee632571dcf79dca928aad93d9fa36cee9d41", func := "castellan/castellanlaw6.UdpBounds", spec := "udpBounds", apart := false, narrowed := true }
def UdpBoundsUptoSaid : Prop := udpBoundsUptoRow.holds Try.pinned (OpenSpec.upto udpBoundsSpec)

/-- 'castellanlaw6.UdpTells', WHERE WHAT IT READS IS OF BULK AT MOST 1048576: true; the input reads as it did. -/
def udpTellsUptoRow : OpenClaim := { program := "ytbpnienknijogaa", sum := "45219169edea9f27ee10a7198b9ee632571dcf79dca928aad93d9fa36cee9d41", func := "castellan/castellanlaw6.UdpTells", spec := "udpTells", apart := false, narrowed := true }
def UdpTellsUptoSaid : Prop := udpTellsUptoRow.holds Try.pinned (OpenSpec.upto udpTellsSpec)

/-- 'castellanlaw4.IpParses', WHERE WHAT IT READS IS OF BULK AT MOST 1048576: true; the input reads as it did. -/
def ipParsesUptoRow : OpenClaim := { program := "ytbpnienknijogaa", sum := "45219169edea9f27ee10a7198b9ee632571dcf79dca928aad93d9fa36cee9d41", func := "castellan/castellanlaw4.IpParses", spec := "ipParses", apart := false, narrowed := true }
def IpParsesUptoSaid : Prop := ipParsesUptoRow.holds Try.pinned (OpenSpec.upto ipParsesSpec)

/-- 'castellanlaw4.IpBack', WHERE WHAT IT READS IS OF BULK AT MOST 1048576: true; the input reads as it did. -/
def ipBackUptoRow : OpenClaim := { program := "ytbpnienknijogaa", sum := "45219169edea9f27ee10a7198b9ee632571dcf79dca928aad93d9fa36cee9d41", func := "castellan/castellanlaw4.IpBack", spec := "ipBack", apart := false, narrowed := true }
def IpBackUptoSaid : Prop := ipBackUptoRow.holds Try.pinned (OpenSpec.upto ipBackSpec)

/-- 'castellanlaw4.IpTurned', WHERE WHAT IT READS IS OF BULK AT MOST 1048576: true; the input reads as it did. -/
def ipTurnedUptoRow : OpenClaim := { program := "ytbpnienknijogaa", sum := "45219169edea9f27ee10a7198b9ee632571dcf79dca928aad93d9fa36cee9d41", func := "castellan/castellanlaw4.IpTurned", spec := "ipTurned", apart := false, narrowed := true }
def IpTurnedUptoSaid : Prop := ipTurnedUptoRow.holds Try.pinned (OpenSpec.upto ipTurnedSpec)

/-- 'castellanlaw4.IpCut', WHERE WHAT IT READS IS OF BULK AT MOST 1048576: true; the input reads as it did. -/
def ipCutUptoRow : OpenClaim := { program := "ytbpnienknijogaa", sum := "45219169edea9f27ee10a7198b9ee632571dcf79dca928aad93d9fa36cee9d41", func := "castellan/castellanlaw4.IpCut", spec := "ipCut", apart := false, narrowed := true }
def IpCutUptoSaid : Prop := ipCutUptoRow.holds Try.pinned (OpenSpec.upto ipCutSpec)

/-- 'castellanlaw4.IpBounds', WHERE WHAT IT READS IS OF BULK AT MOST 1048576: true; the input reads as it did. -/
def ipBoundsUptoRow : OpenClaim := { program := "ytbpnienknijogaa", sum := "45219169edea9f27ee10a7198b9ee632571dcf79dca928aad93d9fa36cee9d41", func := "castellan/castellanlaw4.IpBounds", spec := "ipBounds", apart := false, narrowed := true }
def IpBoundsUptoSaid : Prop := ipBoundsUptoRow.holds Try.pinned (OpenSpec.upto ipBoundsSpec)

/-- 'castellanlaw4.IpBuilds', WHERE WHAT IT READS IS OF BULK AT MOST 1048576: true; the input reads as it did. -/
def ipBuildsUptoRow : OpenClaim := { program := "ytbpnienknijogaa", sum := "45219169edea9f27ee10a7198b9ee632571dcf79dca928aad93d9fa36cee9d41", func := "castellan/castellanlaw4.IpBuilds", spec := "ipBuilds", apart := false, narrowed := true }
def IpBuildsUptoSaid : Prop := ipBuildsUptoRow.holds Try.pinned (OpenSpec.upto ipBuildsSpec)

/-- 'castellanlaw4.IpLess', WHERE WHAT IT READS IS OF BULK AT MOST 1048576: true; the input reads as it did. -/
def ipLessUptoRow : OpenClaim := { program := "ytbpnienknijogaa", sum := "45219169edea9f27ee10a7198b9ee632571dcf79dca928aad93d9fa36cee9d41", func := "castellan/castellanlaw4.IpLess", spec := "ipLess", apart := false, narrowed := true }
def IpLessUptoSaid : Prop := ipLessUptoRow.holds Try.pinned (OpenSpec.upto ipLessSpec)

/-- 'castellanlaw4.IpTwice', WHERE WHAT IT READS IS OF BULK AT MOST 1048576: true; the input reads as it did. -/
def ipTwiceUptoRow : OpenClaim := { program := "ytbpnienknijogaa", sum := "45219169edea9f27ee10a7198b9ee632571dcf79dca928aad93d9fa36cee9d41", func := "castellan/castellanlaw4.IpTwice", spec := "ipTwice", apart := false, narrowed := true }
def IpTwiceUptoSaid : Prop := ipTwiceUptoRow.holds Try.pinned (OpenSpec.upto ipTwiceSpec)

end Rows
end Go.Proofs.Ytbpnienknijogaa
