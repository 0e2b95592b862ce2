/-
  No cell of these rows narrows 'for every input' (looked for: loops, veiled, ifaces, maps, wideKeys, modest, calm, conditions, laid).
  DERIVED. THE GIVEN ROWS OF THIS SEAT. 11 by the template 'for every input the law returns true; each argument reads behind the call as it read before'; 0 by the template 'total and deterministic' (their statements: YtepipgneefcoiaaTotals.lean).
  GIVEN WITH THE SEED: the statements are not yours to turn. If you find one false, say at which input.
  Laid BY PROGRAM, IN A SANDBOX (cutbox-rows.mjs): the forced cells as the released guide's own fill.sh prints them over the translation f5608ef929219692… (all of the seat's roots in one cut). By AI agents, Wed Nov 11 2026. No macro, syntax, notation, axiom, sorry.
-/
import Derived.Test.YtepipgneefcoiaaChecked
import GoSem.Claim
import GoSem.ClaimJoined
import GoSem.ClaimMapViews
import Derived.JoinedTies
import Derived.KernelRfl
namespace Go.Proofs.Ytepipgneefcoiaa
/- THE CELL 'sum', in the pinned program and in every row, IS THE sha256 OF THE DUMP (.gsa) THAT YtepipgneefcoiaaProg.lean LOADS. Nothing in Lean hashes anything: it is a label: what it is worth is what the hold of that sum in a sandbox is worth. -/
noncomputable def Try.pinned : Pinned := { name := "ytepipgneefcoiaa", sum := "f5608ef92921969273980fa5f69e1a67969838f7fec34999e16b094891fbd97b", checked := Try.checked }
namespace Rows
def none {H : Type} : Left H := { results := [], args := [] }

/-- 'marginalialaw14.DiskMade': WHATEVER THE INPUT: true; the input reads as it did. -/
def diskMadeSpec : ChangeSpec := { name := "diskMade", fn := fun _ => fun
  | [d] => { results := [.lit (.bool true)], args := [d] }
  | _ => none }
def diskMadeRow : OpenClaim := { program := "ytepipgneefcoiaa", sum := "f5608ef92921969273980fa5f69e1a67969838f7fec34999e16b094891fbd97b", func := "marginalia/marginalialaw14.DiskMade", spec := "diskMade", unfollowed := true, recurses := true, apart := false }
def DiskMadeSaid : Prop := diskMadeRow.holds Try.pinned (OpenSpec.ofChange diskMadeSpec)

/-- ITS FALSE NEIGHBOUR: 'it returns false'. Refute it at one input. -/
def diskMadeWrong : ChangeSpec := { name := "diskMade", fn := fun _ => fun
  | [d] => { results := [.lit (.bool false)], args := [d] }
  | _ => none }
def DiskMadeWrongFalsely : Prop := diskMadeRow.holds Try.pinned (OpenSpec.ofChange diskMadeWrong)

/-- 'marginalialaw14.DiskSafe': WHATEVER THE INPUT: true; the input reads as it did. -/
def diskSafeSpec : ChangeSpec := { name := "diskSafe", fn := fun _ => fun
  | [d1, d2, d3] => { results := [.lit (.bool true)], args := [d1, d2, d3] }
  | _ => none }
def diskSafeRow : OpenClaim := { program := "ytepipgneefcoiaa", sum := "f5608ef92921969273980fa5f69e1a67969838f7fec34999e16b094891fbd97b", func := "marginalia/marginalialaw14.DiskSafe", spec := "diskSafe", unfollowed := true, recurses := true, apart := false }
def DiskSafeSaid : Prop := diskSafeRow.holds Try.pinned (OpenSpec.ofChange diskSafeSpec)

/-- ITS FALSE NEIGHBOUR: 'it returns false'. Refute it at one input. -/
def diskSafeWrong : ChangeSpec := { name := "diskSafe", fn := fun _ => fun
  | [d1, d2, d3] => { results := [.lit (.bool false)], args := [d1, d2, d3] }
  | _ => none }
def DiskSafeWrongFalsely : Prop := diskSafeRow.holds Try.pinned (OpenSpec.ofChange diskSafeWrong)

/-- 'marginalialaw14.DiskOff': WHATEVER THE INPUT: true; the input reads as it did. -/
def diskOffSpec : ChangeSpec := { name := "diskOff", fn := fun _ => fun
  | [d1, d2] => { results := [.lit (.bool true)], args := [d1, d2] }
  | _ => none }
def diskOffRow : OpenClaim := { program := "ytepipgneefcoiaa", sum := "f5608ef92921969273980fa5f69e1a67969838f7fec34999e16b094891fbd97b", func := "marginalia/marginalialaw14.DiskOff", spec := "diskOff", unfollowed := true, recurses := true, apart := false }
def DiskOffSaid : Prop := diskOffRow.holds Try.pinned (OpenSpec.ofChange diskOffSpec)

/-- ITS FALSE NEIGHBOUR: 'it returns false'. Refute it at one input. -/
def diskOffWrong : ChangeSpec := { name := "diskOff", fn := fun _ => fun
  | [d1, d2] => { results := [.lit (.bool false)], args := [d1, d2] }
  | _ => none }
def DiskOffWrongFalsely : Prop := diskOffRow.holds Try.pinned (OpenSpec.ofChange diskOffWrong)

/-- 'marginalialaw14.DiskWhole': WHATEVER THE INPUT: true; the input reads as it did. -/
def diskWholeSpec : ChangeSpec := { name := "diskWhole", fn := fun _ => fun
  | [d1, d2] => { results := [.lit (.bool true)], args := [d1, d2] }
  | _ => none }
def diskWholeRow : OpenClaim := { program := "ytepipgneefcoiaa", sum := "f5608ef92921969273980fa5f69e1a67969838f7fec34999e16b094891fbd97b", func := "marginalia/marginalialaw14.DiskWhole", spec := "diskWhole", unfollowed := true, recurses := true, apart := false }
def DiskWholeSaid : Prop := diskWholeRow.holds Try.pinned (OpenSpec.ofChange diskWholeSpec)

/-- ITS FALSE NEIGHBOUR: 'it returns false'. Refute it at one input. -/
def diskWholeWrong : ChangeSpec := { name := "diskWhole", fn := fun _ => fun
  | [d1, d2] => { results := [.lit (.bool false)], args := [d1, d2] }
  | _ => none }
def DiskWholeWrongFalsely : Prop := diskWholeRow.holds Try.pinned (OpenSpec.ofChange diskWholeWrong)

/-- 'marginalialaw14.DiskPlays': WHATEVER THE INPUT: true; the input reads as it did. -/
def diskPlaysSpec : ChangeSpec := { name := "diskPlays", fn := fun _ => fun
  | [d1, d2] => { results := [.lit (.bool true)], args := [d1, d2] }
  | _ => none }
def diskPlaysRow : OpenClaim := { program := "ytepipgneefcoiaa", sum := "f5608ef92921969273980fa5f69e1a67969838f7fec34999e16b094891fbd97b", func := "marginalia/marginalialaw14.DiskPlays", spec := "diskPlays", unfollowed := true, recurses := true, apart := false }
def DiskPlaysSaid : Prop := diskPlaysRow.holds Try.pinned (OpenSpec.ofChange diskPlaysSpec)

/-- ITS FALSE NEIGHBOUR: 'it returns false'. Refute it at one input. -/
def diskPlaysWrong : ChangeSpec := { name := "diskPlays", fn := fun _ => fun
  | [d1, d2] => { results := [.lit (.bool false)], args := [d1, d2] }
  | _ => none }
def DiskPlaysWrongFalsely : Prop := diskPlaysRow.holds Try.pinned (OpenSpec.ofChange diskPlaysWrong)

/-- 'marginalialaw14.DiskNil': WHATEVER THE INPUT: true; the input reads as it did. -/
def diskNilSpec : ChangeSpec := { name := "diskNil", fn := fun _ => fun
  | [d1, d2] => { results := [.lit (.bool true)], args := [d1, d2] }
  | _ => none }
def diskNilRow : OpenClaim := { program := "ytepipgneefcoiaa", sum := "f5608ef92921969273980fa5f69e1a67969838f7fec34999e16b094891fbd97b", func := "marginalia/marginalialaw14.DiskNil", spec := "diskNil", unfollowed := true, recurses := true, apart := false }
def DiskNilSaid : Prop := diskNilRow.holds Try.pinned (OpenSpec.ofChange diskNilSpec)

/-- ITS FALSE NEIGHBOUR: 'it returns false'. Refute it at one input. -/
def diskNilWrong : ChangeSpec := { name := "diskNil", fn := fun _ => fun
  | [d1, d2] => { results := [.lit (.bool false)], args := [d1, d2] }
  | _ => none }
def DiskNilWrongFalsely : Prop := diskNilRow.holds Try.pinned (OpenSpec.ofChange diskNilWrong)

/-- 'marginalialaw17.WalReads': WHATEVER THE INPUT: true; the input reads as it did. -/
def walReadsSpec : ChangeSpec := { name := "walReads", fn := fun _ => fun
  | [d1, d2] => { results := [.lit (.bool true)], args := [d1, d2] }
  | _ => none }
def walReadsRow : OpenClaim := { program := "ytepipgneefcoiaa", sum := "f5608ef92921969273980fa5f69e1a67969838f7fec34999e16b094891fbd97b", func := "marginalia/marginalialaw17.WalReads", spec := "walReads", unfollowed := true, recurses := true, apart := false }
def WalReadsSaid : Prop := walReadsRow.holds Try.pinned (OpenSpec.ofChange walReadsSpec)

/-- ITS FALSE NEIGHBOUR: 'it returns false'. Refute it at one input. -/
def walReadsWrong : ChangeSpec := { name := "walReads", fn := fun _ => fun
  | [d1, d2] => { results := [.lit (.bool false)], args := [d1, d2] }
  | _ => none }
def WalReadsWrongFalsely : Prop := walReadsRow.holds Try.pinned (OpenSpec.ofChange walReadsWrong)

/-- 'marginalialaw17.WalFull': WHATEVER THE INPUT: true; the input reads as it did. -/
def walFullSpec : ChangeSpec := { name := "walFull", fn := fun _ => fun
  | [d1, d2] => { results := [.lit (.bool true)], args := [d1, d2] }
  | _ => none }
def walFullRow : OpenClaim := { program := "ytepipgneefcoiaa", sum := "f5608ef92921969273980fa5f69e1a67969838f7fec34999e16b094891fbd97b", func := "marginalia/marginalialaw17.WalFull", spec := "walFull", unfollowed := true, recurses := true, apart := false }
def WalFullSaid : Prop := walFullRow.holds Try.pinned (OpenSpec.ofChange walFullSpec)

/-- ITS FALSE NEIGHBOUR: 'it returns false'. Refute it at one input. -/
def walFullWrong : ChangeSpec := { name := "walFull", fn := fun _ => fun
  | [d1, d2] => { results := [.lit (.bool false)], args := [d1, d2] }
  | _ => none }
def WalFullWrongFalsely : Prop := walFullRow.holds Try.pinned (OpenSpec.ofChange walFullWrong)

/-- 'marginalialaw17.WalNil': WHATEVER THE INPUT: true; the input reads as it did. -/
def walNilSpec : ChangeSpec := { name := "walNil", fn := fun _ => fun
  | [d1, d2, d3] => { results := [.lit (.bool true)], args := [d1, d2, d3] }
  | _ => none }
def walNilRow : OpenClaim := { program := "ytepipgneefcoiaa", sum := "f5608ef92921969273980fa5f69e1a67969838f7fec34999e16b094891fbd97b", func := "marginalia/marginalialaw17.WalNil", spec := "walNil", unfollowed := true, recurses := true, apart := false }
def WalNilSaid : Prop := walNilRow.holds Try.pinned (OpenSpec.ofChange walNilSpec)

/-- ITS FALSE NEIGHBOUR: 'it returns false'. Refute it at one input. -/
def walNilWrong : ChangeSpec := { name := "walNil", fn := fun _ => fun
  | [d1, d2, d3] => { results := [.lit (.bool false)], args := [d1, d2, d3] }
  | _ => none }
def WalNilWrongFalsely : Prop := walNilRow.holds Try.pinned (OpenSpec.ofChange walNilWrong)

/-- 'marginalialaw17.WalKeeps': WHATEVER THE INPUT: true; the input reads as it did. -/
def walKeepsSpec : ChangeSpec := { name := "walKeeps", fn := fun _ => fun
  | [d] => { results := [.lit (.bool true)], args := [d] }
  | _ => none }
def walKeepsRow : OpenClaim := { program := "ytepipgneefcoiaa", sum := "f5608ef92921969273980fa5f69e1a67969838f7fec34999e16b094891fbd97b", func := "marginalia/marginalialaw17.WalKeeps", spec := "walKeeps", unfollowed := true, recurses := true, apart := false }
def WalKeepsSaid : Prop := walKeepsRow.holds Try.pinned (OpenSpec.ofChange walKeepsSpec)

/-- ITS FALSE NEIGHBOUR: 'it returns false'. Refute it at one input. -/
def walKeepsWrong : ChangeSpec := { name := "walKeeps", fn := fun _ => fun
  | [d] => { results := [.lit (.bool false)], args := [d] }
  | _ => none }
def WalKeepsWrongFalsely : Prop := walKeepsRow.holds Try.pinned (OpenSpec.ofChange walKeepsWrong)

/-- 'marginalialaw17.WalPlays': WHATEVER THE INPUT: true; the input reads as it did. -/
def walPlaysSpec : ChangeSpec := { name := "walPlays", fn := fun _ => fun
  | [d1, d2] => { results := [.lit (.bool true)], args := [d1, d2] }
  | _ => none }
def walPlaysRow : OpenClaim := { program := "ytepipgneefcoiaa", sum := "f5608ef92921969273980fa5f69e1a67969838f7fec34999e16b094891fbd97b", func := "marginalia/marginalialaw17.WalPlays", spec := "walPlays", unfollowed := true, recurses := true, apart := false }
def WalPlaysSaid : Prop := walPlaysRow.holds Try.pinned (OpenSpec.ofChange walPlaysSpec)

/-- ITS FALSE NEIGHBOUR: 'it returns false'. Refute it at one input. -/
def walPlaysWrong : ChangeSpec := { name := "walPlays", fn := fun _ => fun
  | [d1, d2] => { results := [.lit (.bool false)], args := [d1, d2] }
  | _ => none }
def WalPlaysWrongFalsely : Prop := walPlaysRow.holds Try.pinned (OpenSpec.ofChange walPlaysWrong)

/- THE SECOND FORM. 'bulk': how many values and letters a reading holds, each counted each time it is reached (what is shared counts as often as it is met; a slice's spare places count too). A statement '..UptoSaid' is the law's where the arguments, and the package variables that the reading takes, are together of bulk at most 1048576: NARROWER than '..Said'. Prove '..Said' where nothing that the law and all that it calls make is longer than what came in: it says more and counts as full. Else prove '..UptoSaid'. A law counts once. -/
mutual
def uptoBulk {H : Type} : DataW H → Nat
  | .lit (.string bytes) => bytes.length + 1
  | .lit _ => 1
  | .nil => 1
  | .ptr d => uptoBulk d + 1
  | .slice elems spare => uptoBulkAll elems + uptoBulkAll spare + 1
  | .agg parts => uptoBulkAll parts + 1
  | .iface _ d => uptoBulk d + 1
  | .map entries => uptoBulkEntries entries + 1
  | .held _ => 1
def uptoBulkAll {H : Type} : List (DataW H) → Nat
  | [] => 0
  | d :: r => uptoBulk d + uptoBulkAll r
def uptoBulkEntries {H : Type} : List (Lit × DataW H) → Nat
  | [] => 0
  | x :: r => uptoBulkEntry x + uptoBulkEntries r
def uptoBulkEntry {H : Type} : Lit × DataW H → Nat
  | (.string bytes, d) => bytes.length + uptoBulk d + 1
  | (_, d) => uptoBulk d + 1
 end
def uptoSmall : (H : Type) → List (DataW H) → Bool := fun _ ds => decide (uptoBulkAll ds ≤ 1048576)
def OpenSpec.upto (s : _root_.Go.ChangeSpec) : _root_.Go.OpenSpec := { _root_.Go.OpenSpec.ofChange s with cond := some uptoSmall }

/-- 'marginalialaw14.DiskMade', WHERE WHAT IT READS IS OF BULK AT MOST 1048576: true; the input reads as it did. -/
def diskMadeUptoRow : OpenClaim := { program := "ytepipgneefcoiaa", sum := "f5608ef92921969273980fa5f69e1a67969838f7fec34999e16b094891fbd97b", func := "marginalia/marginalialaw14.DiskMade", spec := "diskMade", unfollowed := true, recurses := true, apart := false, narrowed := true }
def DiskMadeUptoSaid : Prop := diskMadeUptoRow.holds Try.pinned (OpenSpec.upto diskMadeSpec)

/-- 'marginalialaw14.DiskSafe', WHERE WHAT IT READS IS OF BULK AT MOST 1048576: true; the input reads as it did. -/
def diskSafeUptoRow : OpenClaim := { program := "ytepipgneefcoiaa", sum := "f5608ef92921969273980fa5f69e1a67969838f7fec34999e16b094891fbd97b", func := "marginalia/marginalialaw14.DiskSafe", spec := "diskSafe", unfollowed := true, recurses := true, apart := false, narrowed := true }
def DiskSafeUptoSaid : Prop := diskSafeUptoRow.holds Try.pinned (OpenSpec.upto diskSafeSpec)

/-- 'marginalialaw14.DiskOff', WHERE WHAT IT READS IS OF BULK AT MOST 1048576: true; the input reads as it did. -/
def diskOffUptoRow : OpenClaim := { program := "ytepipgneefcoiaa", sum := "f5608ef92921969273980fa5f69e1a67969838f7fec34999e16b094891fbd97b", func := "marginalia/marginalialaw14.DiskOff", spec := "diskOff", unfollowed := true, recurses := true, apart := false, narrowed := true }
def DiskOffUptoSaid : Prop := diskOffUptoRow.holds Try.pinned (OpenSpec.upto diskOffSpec)

/-- 'marginalialaw14.DiskWhole', WHERE WHAT IT READS IS OF BULK AT MOST 1048576: true; the input reads as it did. -/
def diskWholeUptoRow : OpenClaim := { program := "ytepipgneefcoiaa", sum := "f5608ef92921969273980fa5f69e1a67969838f7fec34999e16b094891fbd97b", func := "marginalia/marginalialaw14.DiskWhole", spec := "diskWhole", unfollowed := true, recurses := true, apart := false, narrowed := true }
def DiskWholeUptoSaid : Prop := diskWholeUptoRow.holds Try.pinned (OpenSpec.upto diskWholeSpec)

/-- 'marginalialaw14.DiskPlays', WHERE WHAT IT READS IS OF BULK AT MOST 1048576: true; the input reads as it did. -/
def diskPlaysUptoRow : OpenClaim := { program := "ytepipgneefcoiaa", sum := "f5608ef92921969273980fa5f69e1a67969838f7fec34999e16b094891fbd97b", func := "marginalia/marginalialaw14.DiskPlays", spec := "diskPlays", unfollowed := true, recurses := true, apart := false, narrowed := true }
def DiskPlaysUptoSaid : Prop := diskPlaysUptoRow.holds Try.pinned (OpenSpec.upto diskPlaysSpec)

/-- 'marginalialaw14.DiskNil', WHERE WHAT IT READS IS OF BULK AT MOST 1048576: true; the input reads as it did. -/
def diskNilUptoRow : OpenClaim := { program := "ytepipgneefcoiaa", sum := "f5608ef92921969273980fa5f69e1a67969838f7fec34999e16b094891fbd97b", func := "marginalia/marginalialaw14.DiskNil", spec := "diskNil", unfollowed := true, recurses := true, apart := false, narrowed := true }
def DiskNilUptoSaid : Prop := diskNilUptoRow.holds Try.pinned (OpenSpec.upto diskNilSpec)

/-- 'marginalialaw17.WalReads', WHERE WHAT IT READS IS OF BULK AT MOST 1048576: true; the input reads as it did. -/
def walReadsUptoRow : OpenClaim := { program := "ytepipgneefcoiaa", sum := "f5608ef92921969273980fa5f69e1a67969838f7fec34999e16b094891fbd97b", func := "marginalia/marginalialaw17.WalReads", spec := "walReads", unfollowed := true, recurses := true, apart := false, narrowed := true }
def WalReadsUptoSaid : Prop := walReadsUptoRow.holds Try.pinned (OpenSpec.upto walReadsSpec)

/-- 'marginalialaw17.WalFull', WHERE WHAT IT READS IS OF BULK AT MOST 1048576: true; the input reads as it did. -/
def walFullUptoRow : OpenClaim := { program := "ytepipgneefcoiaa", sum := "f5608ef92921969273980fa5f69e1a67969838f7fec34999e16b094891fbd97b", func := "marginalia/marginalialaw17.WalFull", spec := "walFull", unfollowed := true, recurses := true, apart := false, narrowed := true }
def WalFullUptoSaid : Prop := walFullUptoRow.holds Try.pinned (OpenSpec.upto walFullSpec)

/-- 'marginalialaw17.WalNil', WHERE WHAT IT READS IS OF BULK AT MOST 1048576: true; the input reads as it did. -/
def walNilUptoRow : OpenClaim := { program := "ytepipgneefcoiaa", sum := "f5608ef92921969273980fa5f69e1a67969838f7fec34999e16b094891fbd97b", func := "marginalia/marginalialaw17.WalNil", spec := "walNil", unfollowed := true, recurses := true, apart := false, narrowed := true }
def WalNilUptoSaid : Prop := walNilUptoRow.holds Try.pinned (OpenSpec.upto walNilSpec)

/-- 'marginalialaw17.WalKeeps', WHERE WHAT IT READS IS OF BULK AT MOST 1048576: true; the input reads as it did. -/
def walKeepsUptoRow : OpenClaim := { program := "ytepipgneefcoiaa", sum := "f5608ef92921969273980fa5f69e1a67969838f7fec34999e16b094891fbd97b", func := "marginalia/marginalialaw17.WalKeeps", spec := "walKeeps", unfollowed := true, recurses := true, apart := false, narrowed := true }
def WalKeepsUptoSaid : Prop := walKeepsUptoRow.holds Try.pinned (OpenSpec.upto walKeepsSpec)

/-- 'marginalialaw17.WalPlays', WHERE WHAT IT READS IS OF BULK AT MOST 1048576: true; the input reads as it did. -/
def walPlaysUptoRow : OpenClaim := { program := "ytepipgneefcoiaa", sum := "f5608ef92921969273980fa5f69e1a67969838f7fec34999e16b094891fbd97b", func := "marginalia/marginalialaw17.WalPlays", spec := "walPlays", unfollowed := true, recurses := true, apart := false, narrowed := true }
def WalPlaysUptoSaid : Prop := walPlaysUptoRow.holds Try.pinned (OpenSpec.upto walPlaysSpec)

end Rows
end Go.Proofs.Ytepipgneefcoiaa
