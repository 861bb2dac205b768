/-
  No cell of these rows narrows 'for every input' (looked for: loops, veiled, ifaces, maps, wideKeys, modest, calm, conditions, laid).
  DERIVED. THE GIVEN ROWS OF THIS SEAT. 18 by the template 'for every input the law returns true; each argument reads behind the call as it read before'; 0 by the template 'total and deterministic' (their statements: YtlofcomnhecgfaaTotals.lean).
  GIVEN WITH THE SEED: the statements are not yours to turn. If you find one false, say at which input.
  Laid BY PROGRAM, IN A SANDBOX (cutbox-rows.mjs): the forced cells as the released guide's own fill.sh prints them over the translation 6943a2f5fb8e73fb… (all of the seat's roots in one cut). By AI agents, Wed Nov 11 2026. No macro, syntax, notation, axiom, sorry.
-/
import Derived.Test.YtlofcomnhecgfaaChecked
import GoSem.Claim
import GoSem.ClaimJoined
import GoSem.ClaimMapViews
import Derived.JoinedTies
import Derived.KernelRfl
namespace Go.Proofs.Ytlofcomnhecgfaa
/- THE CELL 'sum', in the pinned program and in every row, IS THE sha256 OF THE DUMP (.gsa) THAT YtlofcomnhecgfaaProg.lean LOADS. Nothing in Lean hashes anything: it is a label: what it is worth is what the hold of that sum in a sandbox is worth. -/
noncomputable def Try.pinned : Pinned := { name := "ytlofcomnhecgfaa", sum := "6943a2f5fb8e73fb70210ed273def374728bb3b730ed5a910a7fdfb1fbebc1fe", checked := Try.checked }
namespace Rows
def none {H : Type} : Left H := { results := [], args := [] }

/-- 'isthmuslaw02.WirePuts': WHATEVER THE INPUT: true; the input reads as it did. -/
def wirePutsSpec : ChangeSpec := { name := "wirePuts", fn := fun _ => fun
  | [d1, d2] => { results := [.lit (.bool true)], args := [d1, d2] }
  | _ => none }
def wirePutsRow : OpenClaim := { program := "ytlofcomnhecgfaa", sum := "6943a2f5fb8e73fb70210ed273def374728bb3b730ed5a910a7fdfb1fbebc1fe", func := "isthmus/isthmuslaw02.WirePuts", spec := "wirePuts", apart := false }
def WirePutsSaid : Prop := wirePutsRow.holds Try.pinned (OpenSpec.ofChange wirePutsSpec)

/-- ITS FALSE NEIGHBOUR: 'it returns false'. Refute it at one input. -/
def wirePutsWrong : ChangeSpec := { name := "wirePuts", fn := fun _ => fun
  | [d1, d2] => { results := [.lit (.bool false)], args := [d1, d2] }
  | _ => none }
def WirePutsWrongFalsely : Prop := wirePutsRow.holds Try.pinned (OpenSpec.ofChange wirePutsWrong)

/-- 'isthmuslaw02.WireLens': WHATEVER THE INPUT: true; the input reads as it did. -/
def wireLensSpec : ChangeSpec := { name := "wireLens", fn := fun _ => fun
  | [d1, d2] => { results := [.lit (.bool true)], args := [d1, d2] }
  | _ => none }
def wireLensRow : OpenClaim := { program := "ytlofcomnhecgfaa", sum := "6943a2f5fb8e73fb70210ed273def374728bb3b730ed5a910a7fdfb1fbebc1fe", func := "isthmus/isthmuslaw02.WireLens", spec := "wireLens", apart := false }
def WireLensSaid : Prop := wireLensRow.holds Try.pinned (OpenSpec.ofChange wireLensSpec)

/-- ITS FALSE NEIGHBOUR: 'it returns false'. Refute it at one input. -/
def wireLensWrong : ChangeSpec := { name := "wireLens", fn := fun _ => fun
  | [d1, d2] => { results := [.lit (.bool false)], args := [d1, d2] }
  | _ => none }
def WireLensWrongFalsely : Prop := wireLensRow.holds Try.pinned (OpenSpec.ofChange wireLensWrong)

/-- 'isthmuslaw02.WireAside': WHATEVER THE INPUT: true; the input reads as it did. -/
def wireAsideSpec : ChangeSpec := { name := "wireAside", fn := fun _ => fun
  | [d1, d2] => { results := [.lit (.bool true)], args := [d1, d2] }
  | _ => none }
def wireAsideRow : OpenClaim := { program := "ytlofcomnhecgfaa", sum := "6943a2f5fb8e73fb70210ed273def374728bb3b730ed5a910a7fdfb1fbebc1fe", func := "isthmus/isthmuslaw02.WireAside", spec := "wireAside", apart := false }
def WireAsideSaid : Prop := wireAsideRow.holds Try.pinned (OpenSpec.ofChange wireAsideSpec)

/-- ITS FALSE NEIGHBOUR: 'it returns false'. Refute it at one input. -/
def wireAsideWrong : ChangeSpec := { name := "wireAside", fn := fun _ => fun
  | [d1, d2] => { results := [.lit (.bool false)], args := [d1, d2] }
  | _ => none }
def WireAsideWrongFalsely : Prop := wireAsideRow.holds Try.pinned (OpenSpec.ofChange wireAsideWrong)

/-- 'isthmuslaw06.DiskArms': WHATEVER THE INPUT: true; the input reads as it did. -/
def diskArmsSpec : ChangeSpec := { name := "diskArms", fn := fun _ => fun
  | [d1, d2] => { results := [.lit (.bool true)], args := [d1, d2] }
  | _ => none }
def diskArmsRow : OpenClaim := { program := "ytlofcomnhecgfaa", sum := "6943a2f5fb8e73fb70210ed273def374728bb3b730ed5a910a7fdfb1fbebc1fe", func := "isthmus/isthmuslaw06.DiskArms", spec := "diskArms", apart := false }
def DiskArmsSaid : Prop := diskArmsRow.holds Try.pinned (OpenSpec.ofChange diskArmsSpec)

/-- ITS FALSE NEIGHBOUR: 'it returns false'. Refute it at one input. -/
def diskArmsWrong : ChangeSpec := { name := "diskArms", fn := fun _ => fun
  | [d1, d2] => { results := [.lit (.bool false)], args := [d1, d2] }
  | _ => none }
def DiskArmsWrongFalsely : Prop := diskArmsRow.holds Try.pinned (OpenSpec.ofChange diskArmsWrong)

/-- 'isthmuslaw06.DiskLoads': WHATEVER THE INPUT: true; the input reads as it did. -/
def diskLoadsSpec : ChangeSpec := { name := "diskLoads", fn := fun _ => fun
  | [d] => { results := [.lit (.bool true)], args := [d] }
  | _ => none }
def diskLoadsRow : OpenClaim := { program := "ytlofcomnhecgfaa", sum := "6943a2f5fb8e73fb70210ed273def374728bb3b730ed5a910a7fdfb1fbebc1fe", func := "isthmus/isthmuslaw06.DiskLoads", spec := "diskLoads", apart := false }
def DiskLoadsSaid : Prop := diskLoadsRow.holds Try.pinned (OpenSpec.ofChange diskLoadsSpec)

/-- ITS FALSE NEIGHBOUR: 'it returns false'. Refute it at one input. -/
def diskLoadsWrong : ChangeSpec := { name := "diskLoads", fn := fun _ => fun
  | [d] => { results := [.lit (.bool false)], args := [d] }
  | _ => none }
def DiskLoadsWrongFalsely : Prop := diskLoadsRow.holds Try.pinned (OpenSpec.ofChange diskLoadsWrong)

/-- 'isthmuslaw06.DiskSafe': WHATEVER THE INPUT: true; the input reads as it did. -/
def diskSafeSpec : ChangeSpec := { name := "diskSafe", fn := fun _ => fun
  | [d1, d2, d3] => { results := [.lit (.bool true)], args := [d1, d2, d3] }
  | _ => none }
def diskSafeRow : OpenClaim := { program := "ytlofcomnhecgfaa", sum := "6943a2f5fb8e73fb70210ed273def374728bb3b730ed5a910a7fdfb1fbebc1fe", func := "isthmus/isthmuslaw06.DiskSafe", spec := "diskSafe", apart := false }
def DiskSafeSaid : Prop := diskSafeRow.holds Try.pinned (OpenSpec.ofChange diskSafeSpec)

/-- ITS FALSE NEIGHBOUR: 'it returns false'. Refute it at one input. -/
def diskSafeWrong : ChangeSpec := { name := "diskSafe", fn := fun _ => fun
  | [d1, d2, d3] => { results := [.lit (.bool false)], args := [d1, d2, d3] }
  | _ => none }
def DiskSafeWrongFalsely : Prop := diskSafeRow.holds Try.pinned (OpenSpec.ofChange diskSafeWrong)

/-- 'isthmuslaw06.DiskSeen': WHATEVER THE INPUT: true; the input reads as it did. -/
def diskSeenSpec : ChangeSpec := { name := "diskSeen", fn := fun _ => fun
  | [d1, d2] => { results := [.lit (.bool true)], args := [d1, d2] }
  | _ => none }
def diskSeenRow : OpenClaim := { program := "ytlofcomnhecgfaa", sum := "6943a2f5fb8e73fb70210ed273def374728bb3b730ed5a910a7fdfb1fbebc1fe", func := "isthmus/isthmuslaw06.DiskSeen", spec := "diskSeen", apart := false }
def DiskSeenSaid : Prop := diskSeenRow.holds Try.pinned (OpenSpec.ofChange diskSeenSpec)

/-- ITS FALSE NEIGHBOUR: 'it returns false'. Refute it at one input. -/
def diskSeenWrong : ChangeSpec := { name := "diskSeen", fn := fun _ => fun
  | [d1, d2] => { results := [.lit (.bool false)], args := [d1, d2] }
  | _ => none }
def DiskSeenWrongFalsely : Prop := diskSeenRow.holds Try.pinned (OpenSpec.ofChange diskSeenWrong)

/-- 'isthmuslaw02.WireBack': WHATEVER THE INPUT: true; the input reads as it did. -/
def wireBackSpec : ChangeSpec := { name := "wireBack", fn := fun _ => fun
  | [d] => { results := [.lit (.bool true)], args := [d] }
  | _ => none }
def wireBackRow : OpenClaim := { program := "ytlofcomnhecgfaa", sum := "6943a2f5fb8e73fb70210ed273def374728bb3b730ed5a910a7fdfb1fbebc1fe", func := "isthmus/isthmuslaw02.WireBack", spec := "wireBack", apart := false }
def WireBackSaid : Prop := wireBackRow.holds Try.pinned (OpenSpec.ofChange wireBackSpec)

/-- ITS FALSE NEIGHBOUR: 'it returns false'. Refute it at one input. -/
def wireBackWrong : ChangeSpec := { name := "wireBack", fn := fun _ => fun
  | [d] => { results := [.lit (.bool false)], args := [d] }
  | _ => none }
def WireBackWrongFalsely : Prop := wireBackRow.holds Try.pinned (OpenSpec.ofChange wireBackWrong)

/-- 'isthmuslaw02.WireReads': WHATEVER THE INPUT: true; the input reads as it did. -/
def wireReadsSpec : ChangeSpec := { name := "wireReads", fn := fun _ => fun
  | [d1, d2] => { results := [.lit (.bool true)], args := [d1, d2] }
  | _ => none }
def wireReadsRow : OpenClaim := { program := "ytlofcomnhecgfaa", sum := "6943a2f5fb8e73fb70210ed273def374728bb3b730ed5a910a7fdfb1fbebc1fe", func := "isthmus/isthmuslaw02.WireReads", spec := "wireReads", apart := false }
def WireReadsSaid : Prop := wireReadsRow.holds Try.pinned (OpenSpec.ofChange wireReadsSpec)

/-- ITS FALSE NEIGHBOUR: 'it returns false'. Refute it at one input. -/
def wireReadsWrong : ChangeSpec := { name := "wireReads", fn := fun _ => fun
  | [d1, d2] => { results := [.lit (.bool false)], args := [d1, d2] }
  | _ => none }
def WireReadsWrongFalsely : Prop := wireReadsRow.holds Try.pinned (OpenSpec.ofChange wireReadsWrong)

/-- 'isthmuslaw02.WireForms': WHATEVER THE INPUT: true; the input reads as it did. -/
def wireFormsSpec : ChangeSpec := { name := "wireForms", fn := fun _ => fun
  | [d1, d2] => { results := [.lit (.bool true)], args := [d1, d2] }
  | _ => none }
def wireFormsRow : OpenClaim := { program := "ytlofcomnhecgfaa", sum := "6943a2f5fb8e73fb70210ed273def374728bb3b730ed5a910a7fdfb1fbebc1fe", func := "isthmus/isthmuslaw02.WireForms", spec := "wireForms", apart := false }
def WireFormsSaid : Prop := wireFormsRow.holds Try.pinned (OpenSpec.ofChange wireFormsSpec)

/-- ITS FALSE NEIGHBOUR: 'it returns false'. Refute it at one input. -/
def wireFormsWrong : ChangeSpec := { name := "wireForms", fn := fun _ => fun
  | [d1, d2] => { results := [.lit (.bool false)], args := [d1, d2] }
  | _ => none }
def WireFormsWrongFalsely : Prop := wireFormsRow.holds Try.pinned (OpenSpec.ofChange wireFormsWrong)

/-- 'isthmuslaw06.DiskMemory': WHATEVER THE INPUT: true; the input reads as it did. -/
def diskMemorySpec : ChangeSpec := { name := "diskMemory", fn := fun _ => fun
  | [d] => { results := [.lit (.bool true)], args := [d] }
  | _ => none }
def diskMemoryRow : OpenClaim := { program := "ytlofcomnhecgfaa", sum := "6943a2f5fb8e73fb70210ed273def374728bb3b730ed5a910a7fdfb1fbebc1fe", func := "isthmus/isthmuslaw06.DiskMemory", spec := "diskMemory", apart := false }
def DiskMemorySaid : Prop := diskMemoryRow.holds Try.pinned (OpenSpec.ofChange diskMemorySpec)

/-- ITS FALSE NEIGHBOUR: 'it returns false'. Refute it at one input. -/
def diskMemoryWrong : ChangeSpec := { name := "diskMemory", fn := fun _ => fun
  | [d] => { results := [.lit (.bool false)], args := [d] }
  | _ => none }
def DiskMemoryWrongFalsely : Prop := diskMemoryRow.holds Try.pinned (OpenSpec.ofChange diskMemoryWrong)

/-- 'isthmuslaw06.DiskScripts': WHATEVER THE INPUT: true; the input reads as it did. -/
def diskScriptsSpec : ChangeSpec := { name := "diskScripts", fn := fun _ => fun
  | [d1, d2] => { results := [.lit (.bool true)], args := [d1, d2] }
  | _ => none }
def diskScriptsRow : OpenClaim := { program := "ytlofcomnhecgfaa", sum := "6943a2f5fb8e73fb70210ed273def374728bb3b730ed5a910a7fdfb1fbebc1fe", func := "isthmus/isthmuslaw06.DiskScripts", spec := "diskScripts", apart := false }
def DiskScriptsSaid : Prop := diskScriptsRow.holds Try.pinned (OpenSpec.ofChange diskScriptsSpec)

/-- ITS FALSE NEIGHBOUR: 'it returns false'. Refute it at one input. -/
def diskScriptsWrong : ChangeSpec := { name := "diskScripts", fn := fun _ => fun
  | [d1, d2] => { results := [.lit (.bool false)], args := [d1, d2] }
  | _ => none }
def DiskScriptsWrongFalsely : Prop := diskScriptsRow.holds Try.pinned (OpenSpec.ofChange diskScriptsWrong)

/-- 'isthmuslaw06.DiskOff': WHATEVER THE INPUT: true; the input reads as it did. -/
def diskOffSpec : ChangeSpec := { name := "diskOff", fn := fun _ => fun
  | [d1, d2] => { results := [.lit (.bool true)], args := [d1, d2] }
  | _ => none }
def diskOffRow : OpenClaim := { program := "ytlofcomnhecgfaa", sum := "6943a2f5fb8e73fb70210ed273def374728bb3b730ed5a910a7fdfb1fbebc1fe", func := "isthmus/isthmuslaw06.DiskOff", spec := "diskOff", apart := false }
def DiskOffSaid : Prop := diskOffRow.holds Try.pinned (OpenSpec.ofChange diskOffSpec)

/-- ITS FALSE NEIGHBOUR: 'it returns false'. Refute it at one input. -/
def diskOffWrong : ChangeSpec := { name := "diskOff", fn := fun _ => fun
  | [d1, d2] => { results := [.lit (.bool false)], args := [d1, d2] }
  | _ => none }
def DiskOffWrongFalsely : Prop := diskOffRow.holds Try.pinned (OpenSpec.ofChange diskOffWrong)

/-- 'isthmuslaw07.NodeMemory': WHATEVER THE INPUT: true; the input reads as it did. -/
def nodeMemorySpec : ChangeSpec := { name := "nodeMemory", fn := fun _ => fun
  | [d1, d2] => { results := [.lit (.bool true)], args := [d1, d2] }
  | _ => none }
def nodeMemoryRow : OpenClaim := { program := "ytlofcomnhecgfaa", sum := "6943a2f5fb8e73fb70210ed273def374728bb3b730ed5a910a7fdfb1fbebc1fe", func := "isthmus/isthmuslaw07.NodeMemory", spec := "nodeMemory", unfollowed := true, recurses := true, apart := false }
def NodeMemorySaid : Prop := nodeMemoryRow.holds Try.pinned (OpenSpec.ofChange nodeMemorySpec)

/-- ITS FALSE NEIGHBOUR: 'it returns false'. Refute it at one input. -/
def nodeMemoryWrong : ChangeSpec := { name := "nodeMemory", fn := fun _ => fun
  | [d1, d2] => { results := [.lit (.bool false)], args := [d1, d2] }
  | _ => none }
def NodeMemoryWrongFalsely : Prop := nodeMemoryRow.holds Try.pinned (OpenSpec.ofChange nodeMemoryWrong)

/-- 'isthmuslaw07.NodeOpens': WHATEVER THE INPUT: true; the input reads as it did. -/
def nodeOpensSpec : ChangeSpec := { name := "nodeOpens", fn := fun _ => fun
  | [d] => { results := [.lit (.bool true)], args := [d] }
  | _ => none }
def nodeOpensRow : OpenClaim := { program := "ytlofcomnhecgfaa", sum := "6943a2f5fb8e73fb70210ed273def374728bb3b730ed5a910a7fdfb1fbebc1fe", func := "isthmus/isthmuslaw07.NodeOpens", spec := "nodeOpens", unfollowed := true, recurses := true, apart := false }
def NodeOpensSaid : Prop := nodeOpensRow.holds Try.pinned (OpenSpec.ofChange nodeOpensSpec)

/-- ITS FALSE NEIGHBOUR: 'it returns false'. Refute it at one input. -/
def nodeOpensWrong : ChangeSpec := { name := "nodeOpens", fn := fun _ => fun
  | [d] => { results := [.lit (.bool false)], args := [d] }
  | _ => none }
def NodeOpensWrongFalsely : Prop := nodeOpensRow.holds Try.pinned (OpenSpec.ofChange nodeOpensWrong)

/-- 'isthmuslaw07.NodeBytes': WHATEVER THE INPUT: true; the input reads as it did. -/
def nodeBytesSpec : ChangeSpec := { name := "nodeBytes", fn := fun _ => fun
  | [d] => { results := [.lit (.bool true)], args := [d] }
  | _ => none }
def nodeBytesRow : OpenClaim := { program := "ytlofcomnhecgfaa", sum := "6943a2f5fb8e73fb70210ed273def374728bb3b730ed5a910a7fdfb1fbebc1fe", func := "isthmus/isthmuslaw07.NodeBytes", spec := "nodeBytes", unfollowed := true, recurses := true, apart := false }
def NodeBytesSaid : Prop := nodeBytesRow.holds Try.pinned (OpenSpec.ofChange nodeBytesSpec)

/-- ITS FALSE NEIGHBOUR: 'it returns false'. Refute it at one input. -/
def nodeBytesWrong : ChangeSpec := { name := "nodeBytes", fn := fun _ => fun
  | [d] => { results := [.lit (.bool false)], args := [d] }
  | _ => none }
def NodeBytesWrongFalsely : Prop := nodeBytesRow.holds Try.pinned (OpenSpec.ofChange nodeBytesWrong)

/-- 'isthmuslaw07.NodeKeeps': WHATEVER THE INPUT: true; the input reads as it did. -/
def nodeKeepsSpec : ChangeSpec := { name := "nodeKeeps", fn := fun _ => fun
  | [d] => { results := [.lit (.bool true)], args := [d] }
  | _ => none }
def nodeKeepsRow : OpenClaim := { program := "ytlofcomnhecgfaa", sum := "6943a2f5fb8e73fb70210ed273def374728bb3b730ed5a910a7fdfb1fbebc1fe", func := "isthmus/isthmuslaw07.NodeKeeps", spec := "nodeKeeps", unfollowed := true, recurses := true, apart := false }
def NodeKeepsSaid : Prop := nodeKeepsRow.holds Try.pinned (OpenSpec.ofChange nodeKeepsSpec)

/-- ITS FALSE NEIGHBOUR: 'it returns false'. Refute it at one input. -/
def nodeKeepsWrong : ChangeSpec := { name := "nodeKeeps", fn := fun _ => fun
  | [d] => { results := [.lit (.bool false)], args := [d] }
  | _ => none }
def NodeKeepsWrongFalsely : Prop := nodeKeepsRow.holds Try.pinned (OpenSpec.ofChange nodeKeepsWrong)

/-- 'isthmuslaw07.NodeLives': WHATEVER THE INPUT: true; the input reads as it did. -/
def nodeLivesSpec : ChangeSpec := { name := "nodeLives", fn := fun _ => fun
  | [d1, d2] => { results := [.lit (.bool true)], args := [d1, d2] }
  | _ => none }
def nodeLivesRow : OpenClaim := { program := "ytlofcomnhecgfaa", sum := "6943a2f5fb8e73fb70210ed273def374728bb3b730ed5a910a7fdfb1fbebc1fe", func := "isthmus/isthmuslaw07.NodeLives", spec := "nodeLives", unfollowed := true, recurses := true, apart := false }
def NodeLivesSaid : Prop := nodeLivesRow.holds Try.pinned (OpenSpec.ofChange nodeLivesSpec)

/-- ITS FALSE NEIGHBOUR: 'it returns false'. Refute it at one input. -/
def nodeLivesWrong : ChangeSpec := { name := "nodeLives", fn := fun _ => fun
  | [d1, d2] => { results := [.lit (.bool false)], args := [d1, d2] }
  | _ => none }
def NodeLivesWrongFalsely : Prop := nodeLivesRow.holds Try.pinned (OpenSpec.ofChange nodeLivesWrong)

/- THE SECOND FORM. 'bulk': how many values and letters a reading holds, each counted each time it is reached (what is shared counts as often as it is met; a slice's spare places count too). A statement '..UptoSaid' is the law's where the arguments, and the package variables that the reading takes, are together of bulk at most 1048576: NARROWER than '..Said'. Prove '..Said' where nothing that the law and all that it calls make is longer than what came in: it says more and counts as full. Else prove '..UptoSaid'. A law counts once. -/
mutual
def uptoBulk {H : Type} : DataW H → Nat
  | .lit (.string bytes) => bytes.length + 1
  | .lit _ => 1
  | .nil => 1
  | .ptr d => uptoBulk d + 1
  | .slice elems spare => uptoBulkAll elems + uptoBulkAll spare + 1
  | .agg parts => uptoBulkAll parts + 1
  | .iface _ d => uptoBulk d + 1
  | .map entries => uptoBulkEntries entries + 1
  | .held _ => 1
def uptoBulkAll {H : Type} : List (DataW H) → Nat
  | [] => 0
  | d :: r => uptoBulk d + uptoBulkAll r
def uptoBulkEntries {H : Type} : List (Lit × DataW H) → Nat
  | [] => 0
  | x :: r => uptoBulkEntry x + uptoBulkEntries r
def uptoBulkEntry {H : Type} : Lit × DataW H → Nat
  | (.string bytes, d) => bytes.length + uptoBulk d + 1
  | (_, d) => uptoBulk d + 1
 end
def uptoSmall : (H : Type) → List (DataW H) → Bool := fun _ ds => decide (uptoBulkAll ds ≤ 1048576)
def OpenSpec.upto (s : _root_.Go.ChangeSpec) : _root_.Go.OpenSpec := { _root_.Go.OpenSpec.ofChange s with cond := some uptoSmall }

/-- 'isthmuslaw02.WirePuts', WHERE WHAT IT READS IS OF BULK AT MOST 1048576: true; the input reads as it did. -/
def wirePutsUptoRow : OpenClaim := { program := "ytlofcomnhecgfaa", sum := "6943a2f5fb8e73fb70210ed273def374728bb3b730ed5a910a7fdfb1fbebc1fe", func := "isthmus/isthmuslaw02.WirePuts", spec := "wirePuts", apart := false, narrowed := true }
def WirePutsUptoSaid : Prop := wirePutsUptoRow.holds Try.pinned (OpenSpec.upto wirePutsSpec)

/-- 'isthmuslaw02.WireLens', WHERE WHAT IT READS IS OF BULK AT MOST 1048576: true; the input reads as it did. -/
def wireLensUptoRow : OpenClaim := { program := "ytlofcomnhecgfaa", sum := "6943a2f5fb8e73fb70210ed273def374728bb3b730ed5a910a7fdfb1fbebc1fe", func := "isthmus/isthmuslaw02.WireLens", spec := "wireLens", apart := false, narrowed := true }
def WireLensUptoSaid : Prop := wireLensUptoRow.holds Try.pinned (OpenSpec.upto wireLensSpec)

/-- 'isthmuslaw02.WireAside', WHERE WHAT IT READS IS OF BULK AT MOST 1048576: true; the input reads as it did. -/
def wireAsideUptoRow : OpenClaim := { program := "ytlofcomnhecgfaa", sum := "6943a2f5fb8e73fb70210ed273def374728bb3b730ed5a910a7fdfb1fbebc1fe", func := "isthmus/isthmuslaw02.WireAside", spec := "wireAside", apart := false, narrowed := true }
def WireAsideUptoSaid : Prop := wireAsideUptoRow.holds Try.pinned (OpenSpec.upto wireAsideSpec)

/-- 'isthmuslaw06.DiskArms', WHERE WHAT IT READS IS OF BULK AT MOST 1048576: true; the input reads as it did. -/
def diskArmsUptoRow : OpenClaim := { program := "ytlofcomnhecgfaa", sum := "6943a2f5fb8e73fb70210ed273def374728bb3b730ed5a910a7fdfb1fbebc1fe", func := "isthmus/isthmuslaw06.DiskArms", spec := "diskArms", apart := false, narrowed := true }
def DiskArmsUptoSaid : Prop := diskArmsUptoRow.holds Try.pinned (OpenSpec.upto diskArmsSpec)

/-- 'isthmuslaw06.DiskLoads', WHERE WHAT IT READS IS OF BULK AT MOST 1048576: true; the input reads as it did. -/
def diskLoadsUptoRow : OpenClaim := { program := "ytlofcomnhecgfaa", sum := "6943a2f5fb8e73fb70210ed273def374728bb3b730ed5a910a7fdfb1fbebc1fe", func := "isthmus/isthmuslaw06.DiskLoads", spec := "diskLoads", apart := false, narrowed := true }
def DiskLoadsUptoSaid : Prop := diskLoadsUptoRow.holds Try.pinned (OpenSpec.upto diskLoadsSpec)

/-- 'isthmuslaw06.DiskSafe', WHERE WHAT IT READS IS OF BULK AT MOST 1048576: true; the input reads as it did. -/
def diskSafeUptoRow : OpenClaim := { program := "ytlofcomnhecgfaa", sum := "6943a2f5fb8e73fb70210ed273def374728bb3b730ed5a910a7fdfb1fbebc1fe", func := "isthmus/isthmuslaw06.DiskSafe", spec := "diskSafe", apart := false, narrowed := true }
def DiskSafeUptoSaid : Prop := diskSafeUptoRow.holds Try.pinned (OpenSpec.upto diskSafeSpec)

/-- 'isthmuslaw06.DiskSeen', WHERE WHAT IT READS IS OF BULK AT MOST 1048576: true; the input reads as it did. -/
def diskSeenUptoRow : OpenClaim := { program := "ytlofcomnhecgfaa", sum := "6943a2f5fb8e73fb70210ed273def374728bb3b730ed5a910a7fdfb1fbebc1fe", func := "isthmus/isthmuslaw06.DiskSeen", spec := "diskSeen", apart := false, narrowed := true }
def DiskSeenUptoSaid : Prop := diskSeenUptoRow.holds Try.pinned (OpenSpec.upto diskSeenSpec)

/-- 'isthmuslaw02.WireBack', WHERE WHAT IT READS IS OF BULK AT MOST 1048576: true; the input reads as it did. -/
def wireBackUptoRow : OpenClaim := { program := "ytlofcomnhecgfaa", sum := "6943a2f5fb8e73fb70210ed273def374728bb3b730ed5a910a7fdfb1fbebc1fe", func := "isthmus/isthmuslaw02.WireBack", spec := "wireBack", apart := false, narrowed := true }
def WireBackUptoSaid : Prop := wireBackUptoRow.holds Try.pinned (OpenSpec.upto wireBackSpec)

/-- 'isthmuslaw02.WireReads', WHERE WHAT IT READS IS OF BULK AT MOST 1048576: true; the input reads as it did. -/
def wireReadsUptoRow : OpenClaim := { program := "ytlofcomnhecgfaa", sum := "6943a2f5fb8e73fb70210ed273def374728bb3b730ed5a910a7fdfb1fbebc1fe", func := "isthmus/isthmuslaw02.WireReads", spec := "wireReads", apart := false, narrowed := true }
def WireReadsUptoSaid : Prop := wireReadsUptoRow.holds Try.pinned (OpenSpec.upto wireReadsSpec)

/-- 'isthmuslaw02.WireForms', WHERE WHAT IT READS IS OF BULK AT MOST 1048576: true; the input reads as it did. -/
def wireFormsUptoRow : OpenClaim := { program := "ytlofcomnhecgfaa", sum := "6943a2f5fb8e73fb70210ed273def374728bb3b730ed5a910a7fdfb1fbebc1fe", func := "isthmus/isthmuslaw02.WireForms", spec := "wireForms", apart := false, narrowed := true }
def WireFormsUptoSaid : Prop := wireFormsUptoRow.holds Try.pinned (OpenSpec.upto wireFormsSpec)

/-- 'isthmuslaw06.DiskMemory', WHERE WHAT IT READS IS OF BULK AT MOST 1048576: true; the input reads as it did. -/
def diskMemoryUptoRow : OpenClaim := { program := "ytlofcomnhecgfaa", sum := "6943a2f5fb8e73fb70210ed273def374728bb3b730ed5a910a7fdfb1fbebc1fe", func := "isthmus/isthmuslaw06.DiskMemory", spec := "diskMemory", apart := false, narrowed := true }
def DiskMemoryUptoSaid : Prop := diskMemoryUptoRow.holds Try.pinned (OpenSpec.upto diskMemorySpec)

/-- 'isthmuslaw06.DiskScripts', WHERE WHAT IT READS IS OF BULK AT MOST 1048576: true; the input reads as it did. -/
def diskScriptsUptoRow : OpenClaim := { program := "ytlofcomnhecgfaa", sum := "6943a2f5fb8e73fb70210ed273def374728bb3b730ed5a910a7fdfb1fbebc1fe", func := "isthmus/isthmuslaw06.DiskScripts", spec := "diskScripts", apart := false, narrowed := true }
def DiskScriptsUptoSaid : Prop := diskScriptsUptoRow.holds Try.pinned (OpenSpec.upto diskScriptsSpec)

/-- 'isthmuslaw06.DiskOff', WHERE WHAT IT READS IS OF BULK AT MOST 1048576: true; the input reads as it did. -/
def diskOffUptoRow : OpenClaim := { program := "ytlofcomnhecgfaa", sum := "6943a2f5fb8e73fb70210ed273def374728bb3b730ed5a910a7fdfb1fbebc1fe", func := "isthmus/isthmuslaw06.DiskOff", spec := "diskOff", apart := false, narrowed := true }
def DiskOffUptoSaid : Prop := diskOffUptoRow.holds Try.pinned (OpenSpec.upto diskOffSpec)

/-- 'isthmuslaw07.NodeMemory', WHERE WHAT IT READS IS OF BULK AT MOST 1048576: true; the input reads as it did. -/
def nodeMemoryUptoRow : OpenClaim := { program := "ytlofcomnhecgfaa", sum := "6943a2f5fb8e73fb70210ed273def374728bb3b730ed5a910a7fdfb1fbebc1fe", func := "isthmus/isthmuslaw07.NodeMemory", spec := "nodeMemory", unfollowed := true, recurses := true, apart := false, narrowed := true }
def NodeMemoryUptoSaid : Prop := nodeMemoryUptoRow.holds Try.pinned (OpenSpec.upto nodeMemorySpec)

/-- 'isthmuslaw07.NodeOpens', WHERE WHAT IT READS IS OF BULK AT MOST 1048576: true; the input reads as it did. -/
def nodeOpensUptoRow : OpenClaim := { program := "ytlofcomnhecgfaa", sum := "6943a2f5fb8e73fb70210ed273def374728bb3b730ed5a910a7fdfb1fbebc1fe", func := "isthmus/isthmuslaw07.NodeOpens", spec := "nodeOpens", unfollowed := true, recurses := true, apart := false, narrowed := true }
def NodeOpensUptoSaid : Prop := nodeOpensUptoRow.holds Try.pinned (OpenSpec.upto nodeOpensSpec)

/-- 'isthmuslaw07.NodeBytes', WHERE WHAT IT READS IS OF BULK AT MOST 1048576: true; the input reads as it did. -/
def nodeBytesUptoRow : OpenClaim := { program := "ytlofcomnhecgfaa", sum := "6943a2f5fb8e73fb70210ed273def374728bb3b730ed5a910a7fdfb1fbebc1fe", func := "isthmus/isthmuslaw07.NodeBytes", spec := "nodeBytes", unfollowed := true, recurses := true, apart := false, narrowed := true }
def NodeBytesUptoSaid : Prop := nodeBytesUptoRow.holds Try.pinned (OpenSpec.upto nodeBytesSpec)

/-- 'isthmuslaw07.NodeKeeps', WHERE WHAT IT READS IS OF BULK AT MOST 1048576: true; the input reads as it did. -/
def nodeKeepsUptoRow : OpenClaim := { program := "ytlofcomnhecgfaa", sum := "6943a2f5fb8e73fb70210ed273def374728bb3b730ed5a910a7fdfb1fbebc1fe", func := "isthmus/isthmuslaw07.NodeKeeps", spec := "nodeKeeps", unfollowed := true, recurses := true, apart := false, narrowed := true }
def NodeKeepsUptoSaid : Prop := nodeKeepsUptoRow.holds Try.pinned (OpenSpec.upto nodeKeepsSpec)

/-- 'isthmuslaw07.NodeLives', WHERE WHAT IT READS IS OF BULK AT MOST 1048576: true; the input reads as it did. -/
def nodeLivesUptoRow : OpenClaim := { program := "ytlofcomnhecgfaa", sum := "6943a2f5fb8e73fb70210ed273def374728bb3b730ed5a910a7fdfb1fbebc1fe", func := "isthmus/isthmuslaw07.NodeLives", spec := "nodeLives", unfollowed := true, recurses := true, apart := false, narrowed := true }
def NodeLivesUptoSaid : Prop := nodeLivesUptoRow.holds Try.pinned (OpenSpec.upto nodeLivesSpec)

end Rows
end Go.Proofs.Ytlofcomnhecgfaa
