/-
  No cell of these rows narrows 'for every input' (looked for: loops, veiled, ifaces, maps, wideKeys, modest, calm, conditions, laid).
  DERIVED. THE GIVEN ROWS OF THIS SEAT. 11 by the template 'for every input the law returns true; each argument reads behind the call as it read before'; 0 by the template 'total and deterministic' (their statements: YtbenimfjhcbplaaTotals.lean).
  GIVEN WITH THE SEED: the statements are not yours to turn. If you find one false, say at which input.
  Laid BY PROGRAM, IN A SANDBOX (cutbox-rows.mjs): the forced cells as the released guide's own fill.sh prints them over the translation 500d3fe30bab7b82… (all of the seat's roots in one cut). By AI agents, Wed Nov 11 2026. No macro, syntax, notation, axiom, sorry.
-/
import Derived.Test.YtbenimfjhcbplaaChecked
import GoSem.Claim
import GoSem.ClaimJoined
import GoSem.ClaimMapViews
import Derived.JoinedTies
import Derived.KernelRfl
namespace Go.Proofs.Ytbenimfjhcbplaa
/- THE CELL 'sum', in the pinned program and in every row, IS THE sha256 OF THE DUMP (.gsa) THAT YtbenimfjhcbplaaProg.lean LOADS. Nothing in Lean hashes anything: it is a label: what it is worth is what the hold of that sum in a sandbox is worth. -/
noncomputable def Try.pinned : Pinned := { name := "ytbenimfjhcbplaa", sum := "500d3fe30bab7b82d054341fe35e24527d783715be441d466c7baf6f7c6ae222", checked := Try.checked }
namespace Rows
def none {H : Type} : Left H := { results := [], args := [] }

/-- 'castellanlaw7.IcmpKinds': WHATEVER THE INPUT: true; the input reads as it did. -/
def icmpKindsSpec : ChangeSpec := { name := "icmpKinds", fn := fun _ => fun
  | [d] => { results := [.lit (.bool true)], args := [d] }
  | _ => none }
def icmpKindsRow : OpenClaim := { program := "ytbenimfjhcbplaa", sum := "500d3fe30bab7b82d054341fe35e24527d783715be441d466c7baf6f7c6ae222", func := "castellan/castellanlaw7.IcmpKinds", spec := "icmpKinds", apart := false }
def IcmpKindsSaid : Prop := icmpKindsRow.holds Try.pinned (OpenSpec.ofChange icmpKindsSpec)

/-- ITS FALSE NEIGHBOUR: 'it returns false'. Refute it at one input. -/
def icmpKindsWrong : ChangeSpec := { name := "icmpKinds", fn := fun _ => fun
  | [d] => { results := [.lit (.bool false)], args := [d] }
  | _ => none }
def IcmpKindsWrongFalsely : Prop := icmpKindsRow.holds Try.pinned (OpenSpec.ofChange icmpKindsWrong)

/-- 'castellanlaw5.TcpResets': WHATEVER THE INPUT: true; the input reads as it did. -/
def tcpResetsSpec : ChangeSpec := { name := "tcpResets", fn := fun _ => fun
  | [d] => { results := [.lit (.bool true)], args := [d] }
  | _ => none }
def tcpResetsRow : OpenClaim := { program := "ytbenimfjhcbplaa", sum := "500d3fe30bab7b82d054341fe35e24527d783715be441d466c7baf6f7c6ae222", func := "castellan/castellanlaw5.TcpResets", spec := "tcpResets", apart := false }
def TcpResetsSaid : Prop := tcpResetsRow.holds Try.pinned (OpenSpec.ofChange tcpResetsSpec)

/-- ITS FALSE NEIGHBOUR: 'it returns false'. Refute it at one input. -/
def tcpResetsWrong : ChangeSpec := { name := "tcpResets", fn := fun _ => fun
  | [d] => { results := [.lit (.bool false)], args := [d] }
  | _ => none }
def TcpResetsWrongFalsely : Prop := tcpResetsRow.holds Try.pinned (OpenSpec.ofChange tcpResetsWrong)

/-- 'castellanlaw5.TcpCounts': WHATEVER THE INPUT: true; the input reads as it did. -/
def tcpCountsSpec : ChangeSpec := { name := "tcpCounts", fn := fun _ => fun
  | [d1, d2, d3, d4] => { results := [.lit (.bool true)], args := [d1, d2, d3, d4] }
  | _ => none }
def tcpCountsRow : OpenClaim := { program := "ytbenimfjhcbplaa", sum := "500d3fe30bab7b82d054341fe35e24527d783715be441d466c7baf6f7c6ae222", func := "castellan/castellanlaw5.TcpCounts", spec := "tcpCounts", apart := false }
def TcpCountsSaid : Prop := tcpCountsRow.holds Try.pinned (OpenSpec.ofChange tcpCountsSpec)

/-- ITS FALSE NEIGHBOUR: 'it returns false'. Refute it at one input. -/
def tcpCountsWrong : ChangeSpec := { name := "tcpCounts", fn := fun _ => fun
  | [d1, d2, d3, d4] => { results := [.lit (.bool false)], args := [d1, d2, d3, d4] }
  | _ => none }
def TcpCountsWrongFalsely : Prop := tcpCountsRow.holds Try.pinned (OpenSpec.ofChange tcpCountsWrong)

/-- 'castellanlaw7.IcmpQuotes': WHATEVER THE INPUT: true; the input reads as it did. -/
def icmpQuotesSpec : ChangeSpec := { name := "icmpQuotes", fn := fun _ => fun
  | [d] => { results := [.lit (.bool true)], args := [d] }
  | _ => none }
def icmpQuotesRow : OpenClaim := { program := "ytbenimfjhcbplaa", sum := "500d3fe30bab7b82d054341fe35e24527d783715be441d466c7baf6f7c6ae222", func := "castellan/castellanlaw7.IcmpQuotes", spec := "icmpQuotes", apart := false }
def IcmpQuotesSaid : Prop := icmpQuotesRow.holds Try.pinned (OpenSpec.ofChange icmpQuotesSpec)

/-- ITS FALSE NEIGHBOUR: 'it returns false'. Refute it at one input. -/
def icmpQuotesWrong : ChangeSpec := { name := "icmpQuotes", fn := fun _ => fun
  | [d] => { results := [.lit (.bool false)], args := [d] }
  | _ => none }
def IcmpQuotesWrongFalsely : Prop := icmpQuotesRow.holds Try.pinned (OpenSpec.ofChange icmpQuotesWrong)

/-- 'castellanlaw5.TcpParses': WHATEVER THE INPUT: true; the input reads as it did. -/
def tcpParsesSpec : ChangeSpec := { name := "tcpParses", fn := fun _ => fun
  | [d] => { results := [.lit (.bool true)], args := [d] }
  | _ => none }
def tcpParsesRow : OpenClaim := { program := "ytbenimfjhcbplaa", sum := "500d3fe30bab7b82d054341fe35e24527d783715be441d466c7baf6f7c6ae222", func := "castellan/castellanlaw5.TcpParses", spec := "tcpParses", apart := false }
def TcpParsesSaid : Prop := tcpParsesRow.holds Try.pinned (OpenSpec.ofChange tcpParsesSpec)

/-- ITS FALSE NEIGHBOUR: 'it returns false'. Refute it at one input. -/
def tcpParsesWrong : ChangeSpec := { name := "tcpParses", fn := fun _ => fun
  | [d] => { results := [.lit (.bool false)], args := [d] }
  | _ => none }
def TcpParsesWrongFalsely : Prop := tcpParsesRow.holds Try.pinned (OpenSpec.ofChange tcpParsesWrong)

/-- 'castellanlaw7.IcmpShort': WHATEVER THE INPUT: true; the input reads as it did. -/
def icmpShortSpec : ChangeSpec := { name := "icmpShort", fn := fun _ => fun
  | [d] => { results := [.lit (.bool true)], args := [d] }
  | _ => none }
def icmpShortRow : OpenClaim := { program := "ytbenimfjhcbplaa", sum := "500d3fe30bab7b82d054341fe35e24527d783715be441d466c7baf6f7c6ae222", func := "castellan/castellanlaw7.IcmpShort", spec := "icmpShort", apart := false }
def IcmpShortSaid : Prop := icmpShortRow.holds Try.pinned (OpenSpec.ofChange icmpShortSpec)

/-- ITS FALSE NEIGHBOUR: 'it returns false'. Refute it at one input. -/
def icmpShortWrong : ChangeSpec := { name := "icmpShort", fn := fun _ => fun
  | [d] => { results := [.lit (.bool false)], args := [d] }
  | _ => none }
def IcmpShortWrongFalsely : Prop := icmpShortRow.holds Try.pinned (OpenSpec.ofChange icmpShortWrong)

/-- 'castellanlaw5.TcpBuilds': WHATEVER THE INPUT: true; the input reads as it did. -/
def tcpBuildsSpec : ChangeSpec := { name := "tcpBuilds", fn := fun _ => fun
  | [d1, d2, d3, d4] => { results := [.lit (.bool true)], args := [d1, d2, d3, d4] }
  | _ => none }
def tcpBuildsRow : OpenClaim := { program := "ytbenimfjhcbplaa", sum := "500d3fe30bab7b82d054341fe35e24527d783715be441d466c7baf6f7c6ae222", func := "castellan/castellanlaw5.TcpBuilds", spec := "tcpBuilds", apart := false }
def TcpBuildsSaid : Prop := tcpBuildsRow.holds Try.pinned (OpenSpec.ofChange tcpBuildsSpec)

/-- ITS FALSE NEIGHBOUR: 'it returns false'. Refute it at one input. -/
def tcpBuildsWrong : ChangeSpec := { name := "tcpBuilds", fn := fun _ => fun
  | [d1, d2, d3, d4] => { results := [.lit (.bool false)], args := [d1, d2, d3, d4] }
  | _ => none }
def TcpBuildsWrongFalsely : Prop := tcpBuildsRow.holds Try.pinned (OpenSpec.ofChange tcpBuildsWrong)

/-- 'castellanlaw7.IcmpBack': WHATEVER THE INPUT: true; the input reads as it did. -/
def icmpBackSpec : ChangeSpec := { name := "icmpBack", fn := fun _ => fun
  | [d1, d2, d3, d4, d5, d6] => { results := [.lit (.bool true)], args := [d1, d2, d3, d4, d5, d6] }
  | _ => none }
def icmpBackRow : OpenClaim := { program := "ytbenimfjhcbplaa", sum := "500d3fe30bab7b82d054341fe35e24527d783715be441d466c7baf6f7c6ae222", func := "castellan/castellanlaw7.IcmpBack", spec := "icmpBack", apart := false }
def IcmpBackSaid : Prop := icmpBackRow.holds Try.pinned (OpenSpec.ofChange icmpBackSpec)

/-- ITS FALSE NEIGHBOUR: 'it returns false'. Refute it at one input. -/
def icmpBackWrong : ChangeSpec := { name := "icmpBack", fn := fun _ => fun
  | [d1, d2, d3, d4, d5, d6] => { results := [.lit (.bool false)], args := [d1, d2, d3, d4, d5, d6] }
  | _ => none }
def IcmpBackWrongFalsely : Prop := icmpBackRow.holds Try.pinned (OpenSpec.ofChange icmpBackWrong)

/-- 'castellanlaw7.IcmpTells': WHATEVER THE INPUT: true; the input reads as it did. -/
def icmpTellsSpec : ChangeSpec := { name := "icmpTells", fn := fun _ => fun
  | [d1, d2, d3, d4] => { results := [.lit (.bool true)], args := [d1, d2, d3, d4] }
  | _ => none }
def icmpTellsRow : OpenClaim := { program := "ytbenimfjhcbplaa", sum := "500d3fe30bab7b82d054341fe35e24527d783715be441d466c7baf6f7c6ae222", func := "castellan/castellanlaw7.IcmpTells", spec := "icmpTells", apart := false }
def IcmpTellsSaid : Prop := icmpTellsRow.holds Try.pinned (OpenSpec.ofChange icmpTellsSpec)

/-- ITS FALSE NEIGHBOUR: 'it returns false'. Refute it at one input. -/
def icmpTellsWrong : ChangeSpec := { name := "icmpTells", fn := fun _ => fun
  | [d1, d2, d3, d4] => { results := [.lit (.bool false)], args := [d1, d2, d3, d4] }
  | _ => none }
def IcmpTellsWrongFalsely : Prop := icmpTellsRow.holds Try.pinned (OpenSpec.ofChange icmpTellsWrong)

/-- 'castellanlaw5.TcpBack': WHATEVER THE INPUT: true; the input reads as it did. -/
def tcpBackSpec : ChangeSpec := { name := "tcpBack", fn := fun _ => fun
  | [d1, d2, d3] => { results := [.lit (.bool true)], args := [d1, d2, d3] }
  | _ => none }
def tcpBackRow : OpenClaim := { program := "ytbenimfjhcbplaa", sum := "500d3fe30bab7b82d054341fe35e24527d783715be441d466c7baf6f7c6ae222", func := "castellan/castellanlaw5.TcpBack", spec := "tcpBack", apart := false }
def TcpBackSaid : Prop := tcpBackRow.holds Try.pinned (OpenSpec.ofChange tcpBackSpec)

/-- ITS FALSE NEIGHBOUR: 'it returns false'. Refute it at one input. -/
def tcpBackWrong : ChangeSpec := { name := "tcpBack", fn := fun _ => fun
  | [d1, d2, d3] => { results := [.lit (.bool false)], args := [d1, d2, d3] }
  | _ => none }
def TcpBackWrongFalsely : Prop := tcpBackRow.holds Try.pinned (OpenSpec.ofChange tcpBackWrong)

/-- 'castellanlaw5.TcpCut': WHATEVER THE INPUT: true; the input reads as it did. -/
def tcpCutSpec : ChangeSpec := { name := "tcpCut", fn := fun _ => fun
  | [d1, d2] => { results := [.lit (.bool true)], args := [d1, d2] }
  | _ => none }
def tcpCutRow : OpenClaim := { program := "ytbenimfjhcbplaa", sum := "500d3fe30bab7b82d054341fe35e24527d783715be441d466c7baf6f7c6ae222", func := "castellan/castellanlaw5.TcpCut", spec := "tcpCut", apart := false }
def TcpCutSaid : Prop := tcpCutRow.holds Try.pinned (OpenSpec.ofChange tcpCutSpec)

/-- ITS FALSE NEIGHBOUR: 'it returns false'. Refute it at one input. -/
def tcpCutWrong : ChangeSpec := { name := "tcpCut", fn := fun _ => fun
  | [d1, d2] => { results := [.lit (.bool false)], args := [d1, d2] }
  | _ => none }
def TcpCutWrongFalsely : Prop := tcpCutRow.holds Try.pinned (OpenSpec.ofChange tcpCutWrong)

/- THE SECOND FORM. 'bulk': how many values and letters a reading holds, each counted each time it is reached (what is shared counts as often as it is met; a slice's spare places count too). A statement '..UptoSaid' is the law's where the arguments, and the package variables that the reading takes, are together of bulk at most 1048576: NARROWER than '..Said'. Prove '..Said' where nothing that the law and all that it calls make is longer than what came in: it says more and counts as full. Else prove '..UptoSaid'. A law counts once. -/
mutual
def uptoBulk {H : Type} : DataW H → Nat
  | .lit (.string bytes) => bytes.length + 1
  | .lit _ => 1
  | .nil => 1
  | .ptr d => uptoBulk d + 1
  | .slice elems spare => uptoBulkAll elems + uptoBulkAll spare + 1
  | .agg parts => uptoBulkAll parts + 1
  | .iface _ d => uptoBulk d + 1
  | .map entries => uptoBulkEntries entries + 1
  | .held _ => 1
def uptoBulkAll {H : Type} : List (DataW H) → Nat
  | [] => 0
  | d :: r => uptoBulk d + uptoBulkAll r
def uptoBulkEntries {H : Type} : List (Lit × DataW H) → Nat
  | [] => 0
  | x :: r => uptoBulkEntry x + uptoBulkEntries r
def uptoBulkEntry {H : Type} : Lit × DataW H → Nat
  | (.string bytes, d) => bytes.length + uptoBulk d + 1
  | (_, d) => uptoBulk d + 1
 end
def uptoSmall : (H : Type) → List (DataW H) → Bool := fun _ ds => decide (uptoBulkAll ds ≤ 1048576)
def OpenSpec.upto (s : _root_.Go.ChangeSpec) : _root_.Go.OpenSpec := { _root_.Go.OpenSpec.ofChange s with cond := some uptoSmall }

/-- 'castellanlaw7.IcmpKinds', WHERE WHAT IT READS IS OF BULK AT MOST 1048576: true; the input reads as it did. -/
def icmpKindsUptoRow : OpenClaim := { program := "ytbenimfjhcbplaa", sum := "500d3fe30bab7b82d054341fe35e24527d783715be441d466c7baf6f7c6ae222", func := "castellan/castellanlaw7.IcmpKinds", spec := "icmpKinds", apart := false, narrowed := true }
def IcmpKindsUptoSaid : Prop := icmpKindsUptoRow.holds Try.pinned (OpenSpec.upto icmpKindsSpec)

/-- 'castellanlaw5.TcpResets', WHERE WHAT IT READS IS OF BULK AT MOST 1048576: true; the input reads as it did. -/
def tcpResetsUptoRow : OpenClaim := { program := "ytbenimfjhcbplaa", sum := "500d3fe30bab7b82d054341fe35e24527d783715be441d466c7baf6f7c6ae222", func := "castellan/castellanlaw5.TcpResets", spec := "tcpResets", apart := false, narrowed := true }
def TcpResetsUptoSaid : Prop := tcpResetsUptoRow.holds Try.pinned (OpenSpec.upto tcpResetsSpec)

/-- 'castellanlaw5.TcpCounts', WHERE WHAT IT READS IS OF BULK AT MOST 1048576: true; the input reads as it did. -/
def tcpCountsUptoRow : OpenClaim := { program := "ytbenimfjhcbplaa", sum := "500d3fe30bab7b82d054341fe35e24527d783715be441d466c7baf6f7c6ae222", func := "castellan/castellanlaw5.TcpCounts", spec := "tcpCounts", apart := false, narrowed := true }
def TcpCountsUptoSaid : Prop := tcpCountsUptoRow.holds Try.pinned (OpenSpec.upto tcpCountsSpec)

/-- 'castellanlaw7.IcmpQuotes', WHERE WHAT IT READS IS OF BULK AT MOST 1048576: true; the input reads as it did. -/
def icmpQuotesUptoRow : OpenClaim := { program := "ytbenimfjhcbplaa", sum := "500d3fe30bab7b82d054341fe35e24527d783715be441d466c7baf6f7c6ae222", func := "castellan/castellanlaw7.IcmpQuotes", spec := "icmpQuotes", apart := false, narrowed := true }
def IcmpQuotesUptoSaid : Prop := icmpQuotesUptoRow.holds Try.pinned (OpenSpec.upto icmpQuotesSpec)

/-- 'castellanlaw5.TcpParses', WHERE WHAT IT READS IS OF BULK AT MOST 1048576: true; the input reads as it did. -/
def tcpParsesUptoRow : OpenClaim := { program := "ytbenimfjhcbplaa", sum := "500d3fe30bab7b82d054341fe35e24527d783715be441d466c7baf6f7c6ae222", func := "castellan/castellanlaw5.TcpParses", spec := "tcpParses", apart := false, narrowed := true }
def TcpParsesUptoSaid : Prop := tcpParsesUptoRow.holds Try.pinned (OpenSpec.upto tcpParsesSpec)

/-- 'castellanlaw7.IcmpShort', WHERE WHAT IT READS IS OF BULK AT MOST 1048576: true; the input reads as it did. -/
def icmpShortUptoRow : OpenClaim := { program := "ytbenimfjhcbplaa", sum := "500d3fe30bab7b82d054341fe35e24527d783715be441d466c7baf6f7c6ae222", func := "castellan/castellanlaw7.IcmpShort", spec := "icmpShort", apart := false, narrowed := true }
def IcmpShortUptoSaid : Prop := icmpShortUptoRow.holds Try.pinned (OpenSpec.upto icmpShortSpec)

/-- 'castellanlaw5.TcpBuilds', WHERE WHAT IT READS IS OF BULK AT MOST 1048576: true; the input reads as it did. -/
def tcpBuildsUptoRow : OpenClaim := { program := "ytbenimfjhcbplaa", sum := "500d3fe30bab7b82d054341fe35e24527d783715be441d466c7baf6f7c6ae222", func := "castellan/castellanlaw5.TcpBuilds", spec := "tcpBuilds", apart := false, narrowed := true }
def TcpBuildsUptoSaid : Prop := tcpBuildsUptoRow.holds Try.pinned (OpenSpec.upto tcpBuildsSpec)

/-- 'castellanlaw7.IcmpBack', WHERE WHAT IT READS IS OF BULK AT MOST 1048576: true; the input reads as it did. -/
def icmpBackUptoRow : OpenClaim := { program := "ytbenimfjhcbplaa", sum := "500d3fe30bab7b82d054341fe35e24527d783715be441d466c7baf6f7c6ae222", func := "castellan/castellanlaw7.IcmpBack", spec := "icmpBack", apart := false, narrowed := true }
def IcmpBackUptoSaid : Prop := icmpBackUptoRow.holds Try.pinned (OpenSpec.upto icmpBackSpec)

/-- 'castellanlaw7.IcmpTells', WHERE WHAT IT READS IS OF BULK AT MOST 1048576: true; the input reads as it did. -/
def icmpTellsUptoRow : OpenClaim := { program := "ytbenimfjhcbplaa", sum := "500d3fe30bab7b82d054341fe35e24527d783715be441d466c7baf6f7c6ae222", func := "castellan/castellanlaw7.IcmpTells", spec := "icmpTells", apart := false, narrowed := true }
def IcmpTellsUptoSaid : Prop := icmpTellsUptoRow.holds Try.pinned (OpenSpec.upto icmpTellsSpec)

/-- 'castellanlaw5.TcpBack', WHERE WHAT IT READS IS OF BULK AT MOST 1048576: true; the input reads as it did. -/
def tcpBackUptoRow : OpenClaim := { program := "ytbenimfjhcbplaa", sum := "500d3fe30bab7b82d054341fe35e24527d783715be441d466c7baf6f7c6ae222", func := "castellan/castellanlaw5.TcpBack", spec := "tcpBack", apart := false, narrowed := true }
def TcpBackUptoSaid : Prop := tcpBackUptoRow.holds Try.pinned (OpenSpec.upto tcpBackSpec)

/-- 'castellanlaw5.TcpCut', WHERE WHAT IT READS IS OF BULK AT MOST 1048576: true; the input reads as it did. -/
def tcpCutUptoRow : OpenClaim := { program := "ytbenimfjhcbplaa", sum := "500d3fe30bab7b82d054341fe35e24527d783715be441d466c7baf6f7c6ae222", func := "castellan/castellanlaw5.TcpCut", spec := "tcpCut", apart := false, narrowed := true }
def TcpCutUptoSaid : Prop := tcpCutUptoRow.holds Try.pinned (OpenSpec.upto tcpCutSpec)

end Rows
end Go.Proofs.Ytbenimfjhcbplaa
