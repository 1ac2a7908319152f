/-
  No cell of these rows narrows 'for every input' (looked for: loops, veiled, ifaces, maps, wideKeys, modest, calm, conditions, laid).
  DERIVED. THE GIVEN ROWS OF THIS SEAT. 12 by the template 'for every input the law returns true; each argument reads behind the call as it read before'; 0 by the template 'total and deterministic' (their statements: YtodhkdmkkjhnnaaTotals.lean).
  GIVEN WITH THE SEED: the statements are not yours to turn. If you find one false, say at which input.
  Laid BY PROGRAM, IN A SANDBOX (cutbox-rows.mjs): the forced cells as the released guide's own fill.sh prints them over the translation 02cb22b35ec18ccd… (all of the seat's roots in one cut). By AI agents, Wed Nov 11 2026. No macro, syntax, notation, axiom, sorry.
-/
import Derived.Test.YtodhkdmkkjhnnaaChecked
import GoSem.Claim
import GoSem.ClaimJoined
import GoSem.ClaimMapViews
import Derived.JoinedTies
import Derived.KernelRfl
namespace Go.Proofs.Ytodhkdmkkjhnnaa
/- THE CELL 'sum', in the pinned program and in every row, IS THE sha256 OF THE DUMP (.gsa) THAT YtodhkdmkkjhnnaaProg.lean LOADS. Nothing in Lean hashes anything: it is a label: what it is worth is what the hold of that sum in a sandbox is worth. -/
noncomputable def Try.pinned : Pinned := { name := "ytodhkdmkkjhnnaa", sum := "02cb22b35ec18ccda4b190e47d27862e3c33f9189bb6deaaf85dbe2e505d6b94", checked := Try.checked }
namespace Rows
def none {H : Type} : Left H := { results := [], args := [] }

/-- 'silolaw17.BoxPacks': WHATEVER THE INPUT: true; the input reads as it did. -/
def boxPacksSpec : ChangeSpec := { name := "boxPacks", fn := fun _ => fun
  | [d] => { results := [.lit (.bool true)], args := [d] }
  | _ => none }
def boxPacksRow : OpenClaim := { program := "ytodhkdmkkjhnnaa", sum := "02cb22b35ec18ccda4b190e47d27862e3c33f9189bb6deaaf85dbe2e505d6b94", func := "silo/silolaw17.BoxPacks", spec := "boxPacks", apart := false }
def BoxPacksSaid : Prop := boxPacksRow.holds Try.pinned (OpenSpec.ofChange boxPacksSpec)

/-- ITS FALSE NEIGHBOUR: 'it returns false'. Refute it at one input. -/
def boxPacksWrong : ChangeSpec := { name := "boxPacks", fn := fun _ => fun
  | [d] => { results := [.lit (.bool false)], args := [d] }
  | _ => none }
def BoxPacksWrongFalsely : Prop := boxPacksRow.holds Try.pinned (OpenSpec.ofChange boxPacksWrong)

/-- 'silolaw17.BoxOpens': WHATEVER THE INPUT: true; the input reads as it did. -/
def boxOpensSpec : ChangeSpec := { name := "boxOpens", fn := fun _ => fun
  | [d1, d2] => { results := [.lit (.bool true)], args := [d1, d2] }
  | _ => none }
def boxOpensRow : OpenClaim := { program := "ytodhkdmkkjhnnaa", sum := "02cb22b35ec18ccda4b190e47d27862e3c33f9189bb6deaaf85dbe2e505d6b94", func := "silo/silolaw17.BoxOpens", spec := "boxOpens", apart := false }
def BoxOpensSaid : Prop := boxOpensRow.holds Try.pinned (OpenSpec.ofChange boxOpensSpec)

/-- ITS FALSE NEIGHBOUR: 'it returns false'. Refute it at one input. -/
def boxOpensWrong : ChangeSpec := { name := "boxOpens", fn := fun _ => fun
  | [d1, d2] => { results := [.lit (.bool false)], args := [d1, d2] }
  | _ => none }
def BoxOpensWrongFalsely : Prop := boxOpensRow.holds Try.pinned (OpenSpec.ofChange boxOpensWrong)

/-- 'silolaw12.WalReplays': WHATEVER THE INPUT: true; the input reads as it did. -/
def walReplaysSpec : ChangeSpec := { name := "walReplays", fn := fun _ => fun
  | [d1, d2] => { results := [.lit (.bool true)], args := [d1, d2] }
  | _ => none }
def walReplaysRow : OpenClaim := { program := "ytodhkdmkkjhnnaa", sum := "02cb22b35ec18ccda4b190e47d27862e3c33f9189bb6deaaf85dbe2e505d6b94", func := "silo/silolaw12.WalReplays", spec := "walReplays", apart := false }
def WalReplaysSaid : Prop := walReplaysRow.holds Try.pinned (OpenSpec.ofChange walReplaysSpec)

/-- ITS FALSE NEIGHBOUR: 'it returns false'. Refute it at one input. -/
def walReplaysWrong : ChangeSpec := { name := "walReplays", fn := fun _ => fun
  | [d1, d2] => { results := [.lit (.bool false)], args := [d1, d2] }
  | _ => none }
def WalReplaysWrongFalsely : Prop := walReplaysRow.holds Try.pinned (OpenSpec.ofChange walReplaysWrong)

/-- 'silolaw17.BoxSplits': WHATEVER THE INPUT: true; the input reads as it did. -/
def boxSplitsSpec : ChangeSpec := { name := "boxSplits", fn := fun _ => fun
  | [d1, d2] => { results := [.lit (.bool true)], args := [d1, d2] }
  | _ => none }
def boxSplitsRow : OpenClaim := { program := "ytodhkdmkkjhnnaa", sum := "02cb22b35ec18ccda4b190e47d27862e3c33f9189bb6deaaf85dbe2e505d6b94", func := "silo/silolaw17.BoxSplits", spec := "boxSplits", apart := false }
def BoxSplitsSaid : Prop := boxSplitsRow.holds Try.pinned (OpenSpec.ofChange boxSplitsSpec)

/-- ITS FALSE NEIGHBOUR: 'it returns false'. Refute it at one input. -/
def boxSplitsWrong : ChangeSpec := { name := "boxSplits", fn := fun _ => fun
  | [d1, d2] => { results := [.lit (.bool false)], args := [d1, d2] }
  | _ => none }
def BoxSplitsWrongFalsely : Prop := boxSplitsRow.holds Try.pinned (OpenSpec.ofChange boxSplitsWrong)

/-- 'silolaw12.WalFull': WHATEVER THE INPUT: true; the input reads as it did. -/
def walFullSpec : ChangeSpec := { name := "walFull", fn := fun _ => fun
  | [d1, d2] => { results := [.lit (.bool true)], args := [d1, d2] }
  | _ => none }
def walFullRow : OpenClaim := { program := "ytodhkdmkkjhnnaa", sum := "02cb22b35ec18ccda4b190e47d27862e3c33f9189bb6deaaf85dbe2e505d6b94", func := "silo/silolaw12.WalFull", spec := "walFull", apart := false }
def WalFullSaid : Prop := walFullRow.holds Try.pinned (OpenSpec.ofChange walFullSpec)

/-- ITS FALSE NEIGHBOUR: 'it returns false'. Refute it at one input. -/
def walFullWrong : ChangeSpec := { name := "walFull", fn := fun _ => fun
  | [d1, d2] => { results := [.lit (.bool false)], args := [d1, d2] }
  | _ => none }
def WalFullWrongFalsely : Prop := walFullRow.holds Try.pinned (OpenSpec.ofChange walFullWrong)

/-- 'silolaw17.BoxReads': WHATEVER THE INPUT: true; the input reads as it did. -/
def boxReadsSpec : ChangeSpec := { name := "boxReads", fn := fun _ => fun
  | [d1, d2, d3, d4, d5] => { results := [.lit (.bool true)], args := [d1, d2, d3, d4, d5] }
  | _ => none }
def boxReadsRow : OpenClaim := { program := "ytodhkdmkkjhnnaa", sum := "02cb22b35ec18ccda4b190e47d27862e3c33f9189bb6deaaf85dbe2e505d6b94", func := "silo/silolaw17.BoxReads", spec := "boxReads", apart := false }
def BoxReadsSaid : Prop := boxReadsRow.holds Try.pinned (OpenSpec.ofChange boxReadsSpec)

/-- ITS FALSE NEIGHBOUR: 'it returns false'. Refute it at one input. -/
def boxReadsWrong : ChangeSpec := { name := "boxReads", fn := fun _ => fun
  | [d1, d2, d3, d4, d5] => { results := [.lit (.bool false)], args := [d1, d2, d3, d4, d5] }
  | _ => none }
def BoxReadsWrongFalsely : Prop := boxReadsRow.holds Try.pinned (OpenSpec.ofChange boxReadsWrong)

/-- 'silolaw12.WalNil': WHATEVER THE INPUT: true; the input reads as it did. -/
def walNilSpec : ChangeSpec := { name := "walNil", fn := fun _ => fun
  | [d1, d2, d3] => { results := [.lit (.bool true)], args := [d1, d2, d3] }
  | _ => none }
def walNilRow : OpenClaim := { program := "ytodhkdmkkjhnnaa", sum := "02cb22b35ec18ccda4b190e47d27862e3c33f9189bb6deaaf85dbe2e505d6b94", func := "silo/silolaw12.WalNil", spec := "walNil", apart := false }
def WalNilSaid : Prop := walNilRow.holds Try.pinned (OpenSpec.ofChange walNilSpec)

/-- ITS FALSE NEIGHBOUR: 'it returns false'. Refute it at one input. -/
def walNilWrong : ChangeSpec := { name := "walNil", fn := fun _ => fun
  | [d1, d2, d3] => { results := [.lit (.bool false)], args := [d1, d2, d3] }
  | _ => none }
def WalNilWrongFalsely : Prop := walNilRow.holds Try.pinned (OpenSpec.ofChange walNilWrong)

/-- 'silolaw17.BoxNil': WHATEVER THE INPUT: true; the input reads as it did. -/
def boxNilSpec : ChangeSpec := { name := "boxNil", fn := fun _ => fun
  | [d1, d2] => { results := [.lit (.bool true)], args := [d1, d2] }
  | _ => none }
def boxNilRow : OpenClaim := { program := "ytodhkdmkkjhnnaa", sum := "02cb22b35ec18ccda4b190e47d27862e3c33f9189bb6deaaf85dbe2e505d6b94", func := "silo/silolaw17.BoxNil", spec := "boxNil", apart := false }
def BoxNilSaid : Prop := boxNilRow.holds Try.pinned (OpenSpec.ofChange boxNilSpec)

/-- ITS FALSE NEIGHBOUR: 'it returns false'. Refute it at one input. -/
def boxNilWrong : ChangeSpec := { name := "boxNil", fn := fun _ => fun
  | [d1, d2] => { results := [.lit (.bool false)], args := [d1, d2] }
  | _ => none }
def BoxNilWrongFalsely : Prop := boxNilRow.holds Try.pinned (OpenSpec.ofChange boxNilWrong)

/-- 'silolaw12.WalPlays': WHATEVER THE INPUT: true; the input reads as it did. -/
def walPlaysSpec : ChangeSpec := { name := "walPlays", fn := fun _ => fun
  | [d] => { results := [.lit (.bool true)], args := [d] }
  | _ => none }
def walPlaysRow : OpenClaim := { program := "ytodhkdmkkjhnnaa", sum := "02cb22b35ec18ccda4b190e47d27862e3c33f9189bb6deaaf85dbe2e505d6b94", func := "silo/silolaw12.WalPlays", spec := "walPlays", apart := false }
def WalPlaysSaid : Prop := walPlaysRow.holds Try.pinned (OpenSpec.ofChange walPlaysSpec)

/-- ITS FALSE NEIGHBOUR: 'it returns false'. Refute it at one input. -/
def walPlaysWrong : ChangeSpec := { name := "walPlays", fn := fun _ => fun
  | [d] => { results := [.lit (.bool false)], args := [d] }
  | _ => none }
def WalPlaysWrongFalsely : Prop := walPlaysRow.holds Try.pinned (OpenSpec.ofChange walPlaysWrong)

/-- 'silolaw17.BoxKeeps': WHATEVER THE INPUT: true; the input reads as it did. -/
def boxKeepsSpec : ChangeSpec := { name := "boxKeeps", fn := fun _ => fun
  | [d1, d2, d3, d4] => { results := [.lit (.bool true)], args := [d1, d2, d3, d4] }
  | _ => none }
def boxKeepsRow : OpenClaim := { program := "ytodhkdmkkjhnnaa", sum := "02cb22b35ec18ccda4b190e47d27862e3c33f9189bb6deaaf85dbe2e505d6b94", func := "silo/silolaw17.BoxKeeps", spec := "boxKeeps", apart := false }
def BoxKeepsSaid : Prop := boxKeepsRow.holds Try.pinned (OpenSpec.ofChange boxKeepsSpec)

/-- ITS FALSE NEIGHBOUR: 'it returns false'. Refute it at one input. -/
def boxKeepsWrong : ChangeSpec := { name := "boxKeeps", fn := fun _ => fun
  | [d1, d2, d3, d4] => { results := [.lit (.bool false)], args := [d1, d2, d3, d4] }
  | _ => none }
def BoxKeepsWrongFalsely : Prop := boxKeepsRow.holds Try.pinned (OpenSpec.ofChange boxKeepsWrong)

/-- 'silolaw04.DiskRoom': WHATEVER THE INPUT: true; the input reads as it did. -/
def diskRoomSpec : ChangeSpec := { name := "diskRoom", fn := fun _ => fun
  | [d1, d2, d3] => { results := [.lit (.bool true)], args := [d1, d2, d3] }
  | _ => none }
def diskRoomRow : OpenClaim := { program := "ytodhkdmkkjhnnaa", sum := "02cb22b35ec18ccda4b190e47d27862e3c33f9189bb6deaaf85dbe2e505d6b94", func := "silo/silolaw04.DiskRoom", spec := "diskRoom", unfollowed := true, recurses := true, apart := false }
def DiskRoomSaid : Prop := diskRoomRow.holds Try.pinned (OpenSpec.ofChange diskRoomSpec)

/-- ITS FALSE NEIGHBOUR: 'it returns false'. Refute it at one input. -/
def diskRoomWrong : ChangeSpec := { name := "diskRoom", fn := fun _ => fun
  | [d1, d2, d3] => { results := [.lit (.bool false)], args := [d1, d2, d3] }
  | _ => none }
def DiskRoomWrongFalsely : Prop := diskRoomRow.holds Try.pinned (OpenSpec.ofChange diskRoomWrong)

/-- 'silolaw04.DiskNil': WHATEVER THE INPUT: true; the input reads as it did. -/
def diskNilSpec : ChangeSpec := { name := "diskNil", fn := fun _ => fun
  | [d] => { results := [.lit (.bool true)], args := [d] }
  | _ => none }
def diskNilRow : OpenClaim := { program := "ytodhkdmkkjhnnaa", sum := "02cb22b35ec18ccda4b190e47d27862e3c33f9189bb6deaaf85dbe2e505d6b94", func := "silo/silolaw04.DiskNil", spec := "diskNil", unfollowed := true, recurses := true, apart := false }
def DiskNilSaid : Prop := diskNilRow.holds Try.pinned (OpenSpec.ofChange diskNilSpec)

/-- ITS FALSE NEIGHBOUR: 'it returns false'. Refute it at one input. -/
def diskNilWrong : ChangeSpec := { name := "diskNil", fn := fun _ => fun
  | [d] => { results := [.lit (.bool false)], args := [d] }
  | _ => none }
def DiskNilWrongFalsely : Prop := diskNilRow.holds Try.pinned (OpenSpec.ofChange diskNilWrong)

/- THE SECOND FORM. 'bulk': how many values and letters a reading holds, each counted each time it is reached (what is shared counts as often as it is met; a slice's spare places count too). A statement '..UptoSaid' is the law's where the arguments, and the package variables that the reading takes, are together of bulk at most 1048576: NARROWER than '..Said'. Prove '..Said' where nothing that the law and all that it calls make is longer than what came in: it says more and counts as full. Else prove '..UptoSaid'. A law counts once. -/
mutual
def uptoBulk {H : Type} : DataW H → Nat
  | .lit (.string bytes) => bytes.length + 1
  | .lit _ => 1
  | .nil => 1
  | .ptr d => uptoBulk d + 1
  | .slice elems spare => uptoBulkAll elems + uptoBulkAll spare + 1
  | .agg parts => uptoBulkAll parts + 1
  | .iface _ d => uptoBulk d + 1
  | .map entries => uptoBulkEntries entries + 1
  | .held _ => 1
def uptoBulkAll {H : Type} : List (DataW H) → Nat
  | [] => 0
  | d :: r => uptoBulk d + uptoBulkAll r
def uptoBulkEntries {H : Type} : List (Lit × DataW H) → Nat
  | [] => 0
  | x :: r => uptoBulkEntry x + uptoBulkEntries r
def uptoBulkEntry {H : Type} : Lit × DataW H → Nat
  | (.string bytes, d) => bytes.length + uptoBulk d + 1
  | (_, d) => uptoBulk d + 1
 end
def uptoSmall : (H : Type) → List (DataW H) → Bool := fun _ ds => decide (uptoBulkAll ds ≤ 1048576)
def OpenSpec.upto (s : _root_.Go.ChangeSpec) : _root_.Go.OpenSpec := { _root_.Go.OpenSpec.ofChange s with cond := some uptoSmall }

/-- 'silolaw17.BoxPacks', WHERE WHAT IT READS IS OF BULK AT MOST 1048576: true; the input reads as it did. -/
def boxPacksUptoRow : OpenClaim := { program := "ytodhkdmkkjhnnaa", sum := "02cb22b35ec18ccda4b190e47d27862e3c33f9189bb6deaaf85dbe2e505d6b94", func := "silo/silolaw17.BoxPacks", spec := "boxPacks", apart := false, narrowed := true }
def BoxPacksUptoSaid : Prop := boxPacksUptoRow.holds Try.pinned (OpenSpec.upto boxPacksSpec)

/-- 'silolaw17.BoxOpens', WHERE WHAT IT READS IS OF BULK AT MOST 1048576: true; the input reads as it did. -/
def boxOpensUptoRow : OpenClaim := { program := "ytodhkdmkkjhnnaa", sum := "02cb22b35ec18ccda4b190e47d27862e3c33f9189bb6deaaf85dbe2e505d6b94", func := "silo/silolaw17.BoxOpens", spec := "boxOpens", apart := false, narrowed := true }
def BoxOpensUptoSaid : Prop := boxOpensUptoRow.holds Try.pinned (OpenSpec.upto boxOpensSpec)

/-- 'silolaw12.WalReplays', WHERE WHAT IT READS IS OF BULK AT MOST 1048576: true; the input reads as it did. -/
def walReplaysUptoRow : OpenClaim := { program := "ytodhkdmkkjhnnaa", sum := "02cb22b35ec18ccda4b190e47d27862e3c33f9189bb6deaaf85dbe2e505d6b94", func := "silo/silolaw12.WalReplays", spec := "walReplays", apart := false, narrowed := true }
def WalReplaysUptoSaid : Prop := walReplaysUptoRow.holds Try.pinned (OpenSpec.upto walReplaysSpec)

/-- 'silolaw17.BoxSplits', WHERE WHAT IT READS IS OF BULK AT MOST 1048576: true; the input reads as it did. -/
def boxSplitsUptoRow : OpenClaim := { program := "ytodhkdmkkjhnnaa", sum := "02cb22b35ec18ccda4b190e47d27862e3c33f9189bb6deaaf85dbe2e505d6b94", func := "silo/silolaw17.BoxSplits", spec := "boxSplits", apart := false, narrowed := true }
def BoxSplitsUptoSaid : Prop := boxSplitsUptoRow.holds Try.pinned (OpenSpec.upto boxSplitsSpec)

/-- 'silolaw12.WalFull', WHERE WHAT IT READS IS OF BULK AT MOST 1048576: true; the input reads as it did. -/
def walFullUptoRow : OpenClaim := { program := "ytodhkdmkkjhnnaa", sum := "02cb22b35ec18ccda4b190e47d27862e3c33f9189bb6deaaf85dbe2e505d6b94", func := "silo/silolaw12.WalFull", spec := "walFull", apart := false, narrowed := true }
def WalFullUptoSaid : Prop := walFullUptoRow.holds Try.pinned (OpenSpec.upto walFullSpec)

/-- 'silolaw17.BoxReads', WHERE WHAT IT READS IS OF BULK AT MOST 1048576: true; the input reads as it did. -/
def boxReadsUptoRow : OpenClaim := { program := "ytodhkdmkkjhnnaa", sum := "02cb22b35ec18ccda4b190e47d27862e3c33f9189bb6deaaf85dbe2e505d6b94", func := "silo/silolaw17.BoxReads", spec := "boxReads", apart := false, narrowed := true }
def BoxReadsUptoSaid : Prop := boxReadsUptoRow.holds Try.pinned (OpenSpec.upto boxReadsSpec)

/-- 'silolaw12.WalNil', WHERE WHAT IT READS IS OF BULK AT MOST 1048576: true; the input reads as it did. -/
def walNilUptoRow : OpenClaim := { program := "ytodhkdmkkjhnnaa", sum := "02cb22b35ec18ccda4b190e47d27862e3c33f9189bb6deaaf85dbe2e505d6b94", func := "silo/silolaw12.WalNil", spec := "walNil", apart := false, narrowed := true }
def WalNilUptoSaid : Prop := walNilUptoRow.holds Try.pinned (OpenSpec.upto walNilSpec)

/-- 'silolaw17.BoxNil', WHERE WHAT IT READS IS OF BULK AT MOST 1048576: true; the input reads as it did. -/
def boxNilUptoRow : OpenClaim := { program := "ytodhkdmkkjhnnaa", sum := "02cb22b35ec18ccda4b190e47d27862e3c33f9189bb6deaaf85dbe2e505d6b94", func := "silo/silolaw17.BoxNil", spec := "boxNil", apart := false, narrowed := true }
def BoxNilUptoSaid : Prop := boxNilUptoRow.holds Try.pinned (OpenSpec.upto boxNilSpec)

/-- 'silolaw12.WalPlays', WHERE WHAT IT READS IS OF BULK AT MOST 1048576: true; the input reads as it did. -/
def walPlaysUptoRow : OpenClaim := { program := "ytodhkdmkkjhnnaa", sum := "02cb22b35ec18ccda4b190e47d27862e3c33f9189bb6deaaf85dbe2e505d6b94", func := "silo/silolaw12.WalPlays", spec := "walPlays", apart := false, narrowed := true }
def WalPlaysUptoSaid : Prop := walPlaysUptoRow.holds Try.pinned (OpenSpec.upto walPlaysSpec)

/-- 'silolaw17.BoxKeeps', WHERE WHAT IT READS IS OF BULK AT MOST 1048576: true; the input reads as it did. -/
def boxKeepsUptoRow : OpenClaim := { program := "ytodhkdmkkjhnnaa", sum := "02cb22b35ec18ccda4b190e47d27862e3c33f9189bb6deaaf85dbe2e505d6b94", func := "silo/silolaw17.BoxKeeps", spec := "boxKeeps", apart := false, narrowed := true }
def BoxKeepsUptoSaid : Prop := boxKeepsUptoRow.holds Try.pinned (OpenSpec.upto boxKeepsSpec)

/-- 'silolaw04.DiskRoom', WHERE WHAT IT READS IS OF BULK AT MOST 1048576: true; the input reads as it did. -/
def diskRoomUptoRow : OpenClaim := { program := "ytodhkdmkkjhnnaa", sum := "02cb22b35ec18ccda4b190e47d27862e3c33f9189bb6deaaf85dbe2e505d6b94", func := "silo/silolaw04.DiskRoom", spec := "diskRoom", unfollowed := true, recurses := true, apart := false, narrowed := true }
def DiskRoomUptoSaid : Prop := diskRoomUptoRow.holds Try.pinned (OpenSpec.upto diskRoomSpec)

/-- 'silolaw04.DiskNil', WHERE WHAT IT READS IS OF BULK AT MOST 1048576: true; the input reads as it did. -/
def diskNilUptoRow : OpenClaim := { program := "ytodhkdmkkjhnnaa", sum := "02cb22b35ec18ccda4b190e47d27862e3c33f9189bb6deaaf85dbe2e505d6b94", func := "silo/silolaw04.DiskNil", spec := "diskNil", unfollowed := true, recurses := true, apart := false, narrowed := true }
def DiskNilUptoSaid : Prop := diskNilUptoRow.holds Try.pinned (OpenSpec.upto diskNilSpec)

end Rows
end Go.Proofs.Ytodhkdmkkjhnnaa
