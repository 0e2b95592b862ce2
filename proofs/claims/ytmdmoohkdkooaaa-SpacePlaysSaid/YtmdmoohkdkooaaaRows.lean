/-
  No cell of these rows narrows 'for every input' (looked for: loops, veiled, ifaces, maps, wideKeys, modest, calm, conditions, laid).
  DERIVED. THE GIVEN ROWS OF THIS SEAT. 10 by the template 'for every input the law returns true; each argument reads behind the call as it read before'; 0 by the template 'total and deterministic' (their statements: YtmdmoohkdkooaaaTotals.lean).
  GIVEN WITH THE SEED: the statements are not yours to turn. If you find one false, say at which input.
  Laid BY PROGRAM, IN A SANDBOX (cutbox-rows.mjs): the forced cells as the released guide's own fill.sh prints them over the translation d8b50122ccf3239b… (all of the seat's roots in one cut). By AI agents, Wed Nov 11 2026. No macro, syntax, notation, axiom, sorry.
-/
import Derived.Test.YtmdmoohkdkooaaaChecked
import GoSem.Claim
import GoSem.ClaimJoined
import GoSem.ClaimMapViews
import Derived.JoinedTies
import Derived.KernelRfl
namespace Go.Proofs.Ytmdmoohkdkooaaa
/- THE CELL 'sum', in the pinned program and in every row, IS THE sha256 OF THE DUMP (.gsa) THAT YtmdmoohkdkooaaaProg.lean LOADS. Nothing in Lean hashes anything: it is a label: what it is worth is what the hold of that sum in a sandbox is worth. -/
noncomputable def Try.pinned : Pinned := { name := "ytmdmoohkdkooaaa", sum := "d8b50122ccf3239b58e589577740d7231a2645174a2db1f5f2cc65b5ccc3fec6", checked := Try.checked }
namespace Rows
def none {H : Type} : Left H := { results := [], args := [] }

/-- 'marginalialaw07.MarksAlike': WHATEVER THE INPUT: true; the input reads as it did. -/
def marksAlikeSpec : ChangeSpec := { name := "marksAlike", fn := fun _ => fun
  | [d1, d2] => { results := [.lit (.bool true)], args := [d1, d2] }
  | _ => none }
def marksAlikeRow : OpenClaim := { program := "ytmdmoohkdkooaaa", sum := "d8b50122ccf3239b58e589577740d7231a2645174a2db1f5f2cc65b5ccc3fec6", func := "marginalia/marginalialaw07.MarksAlike", spec := "marksAlike", unfollowed := true, recurses := true, apart := false }
def MarksAlikeSaid : Prop := marksAlikeRow.holds Try.pinned (OpenSpec.ofChange marksAlikeSpec)

/-- ITS FALSE NEIGHBOUR: 'it returns false'. Refute it at one input. -/
def marksAlikeWrong : ChangeSpec := { name := "marksAlike", fn := fun _ => fun
  | [d1, d2] => { results := [.lit (.bool false)], args := [d1, d2] }
  | _ => none }
def MarksAlikeWrongFalsely : Prop := marksAlikeRow.holds Try.pinned (OpenSpec.ofChange marksAlikeWrong)

/-- 'marginalialaw07.MarksPush': WHATEVER THE INPUT: true; the input reads as it did. -/
def marksPushSpec : ChangeSpec := { name := "marksPush", fn := fun _ => fun
  | [d1, d2] => { results := [.lit (.bool true)], args := [d1, d2] }
  | _ => none }
def marksPushRow : OpenClaim := { program := "ytmdmoohkdkooaaa", sum := "d8b50122ccf3239b58e589577740d7231a2645174a2db1f5f2cc65b5ccc3fec6", func := "marginalia/marginalialaw07.MarksPush", spec := "marksPush", unfollowed := true, recurses := true, apart := false }
def MarksPushSaid : Prop := marksPushRow.holds Try.pinned (OpenSpec.ofChange marksPushSpec)

/-- ITS FALSE NEIGHBOUR: 'it returns false'. Refute it at one input. -/
def marksPushWrong : ChangeSpec := { name := "marksPush", fn := fun _ => fun
  | [d1, d2] => { results := [.lit (.bool false)], args := [d1, d2] }
  | _ => none }
def MarksPushWrongFalsely : Prop := marksPushRow.holds Try.pinned (OpenSpec.ofChange marksPushWrong)

/-- 'marginalialaw07.MarksFinds': WHATEVER THE INPUT: true; the input reads as it did. -/
def marksFindsSpec : ChangeSpec := { name := "marksFinds", fn := fun _ => fun
  | [d1, d2, d3] => { results := [.lit (.bool true)], args := [d1, d2, d3] }
  | _ => none }
def marksFindsRow : OpenClaim := { program := "ytmdmoohkdkooaaa", sum := "d8b50122ccf3239b58e589577740d7231a2645174a2db1f5f2cc65b5ccc3fec6", func := "marginalia/marginalialaw07.MarksFinds", spec := "marksFinds", unfollowed := true, recurses := true, apart := false }
def MarksFindsSaid : Prop := marksFindsRow.holds Try.pinned (OpenSpec.ofChange marksFindsSpec)

/-- ITS FALSE NEIGHBOUR: 'it returns false'. Refute it at one input. -/
def marksFindsWrong : ChangeSpec := { name := "marksFinds", fn := fun _ => fun
  | [d1, d2, d3] => { results := [.lit (.bool false)], args := [d1, d2, d3] }
  | _ => none }
def MarksFindsWrongFalsely : Prop := marksFindsRow.holds Try.pinned (OpenSpec.ofChange marksFindsWrong)

/-- 'marginalialaw07.MarksThree': WHATEVER THE INPUT: true; the input reads as it did. -/
def marksThreeSpec : ChangeSpec := { name := "marksThree", fn := fun _ => fun
  | [d] => { results := [.lit (.bool true)], args := [d] }
  | _ => none }
def marksThreeRow : OpenClaim := { program := "ytmdmoohkdkooaaa", sum := "d8b50122ccf3239b58e589577740d7231a2645174a2db1f5f2cc65b5ccc3fec6", func := "marginalia/marginalialaw07.MarksThree", spec := "marksThree", unfollowed := true, recurses := true, apart := false }
def MarksThreeSaid : Prop := marksThreeRow.holds Try.pinned (OpenSpec.ofChange marksThreeSpec)

/-- ITS FALSE NEIGHBOUR: 'it returns false'. Refute it at one input. -/
def marksThreeWrong : ChangeSpec := { name := "marksThree", fn := fun _ => fun
  | [d] => { results := [.lit (.bool false)], args := [d] }
  | _ => none }
def MarksThreeWrongFalsely : Prop := marksThreeRow.holds Try.pinned (OpenSpec.ofChange marksThreeWrong)

/-- 'marginalialaw07.MarksTurns': WHATEVER THE INPUT: true; the input reads as it did. -/
def marksTurnsSpec : ChangeSpec := { name := "marksTurns", fn := fun _ => fun
  | [d1, d2, d3] => { results := [.lit (.bool true)], args := [d1, d2, d3] }
  | _ => none }
def marksTurnsRow : OpenClaim := { program := "ytmdmoohkdkooaaa", sum := "d8b50122ccf3239b58e589577740d7231a2645174a2db1f5f2cc65b5ccc3fec6", func := "marginalia/marginalialaw07.MarksTurns", spec := "marksTurns", unfollowed := true, recurses := true, apart := false }
def MarksTurnsSaid : Prop := marksTurnsRow.holds Try.pinned (OpenSpec.ofChange marksTurnsSpec)

/-- ITS FALSE NEIGHBOUR: 'it returns false'. Refute it at one input. -/
def marksTurnsWrong : ChangeSpec := { name := "marksTurns", fn := fun _ => fun
  | [d1, d2, d3] => { results := [.lit (.bool false)], args := [d1, d2, d3] }
  | _ => none }
def MarksTurnsWrongFalsely : Prop := marksTurnsRow.holds Try.pinned (OpenSpec.ofChange marksTurnsWrong)

/-- 'marginalialaw07.MarksBack': WHATEVER THE INPUT: true; the input reads as it did. -/
def marksBackSpec : ChangeSpec := { name := "marksBack", fn := fun _ => fun
  | [d1, d2, d3] => { results := [.lit (.bool true)], args := [d1, d2, d3] }
  | _ => none }
def marksBackRow : OpenClaim := { program := "ytmdmoohkdkooaaa", sum := "d8b50122ccf3239b58e589577740d7231a2645174a2db1f5f2cc65b5ccc3fec6", func := "marginalia/marginalialaw07.MarksBack", spec := "marksBack", unfollowed := true, recurses := true, apart := false }
def MarksBackSaid : Prop := marksBackRow.holds Try.pinned (OpenSpec.ofChange marksBackSpec)

/-- ITS FALSE NEIGHBOUR: 'it returns false'. Refute it at one input. -/
def marksBackWrong : ChangeSpec := { name := "marksBack", fn := fun _ => fun
  | [d1, d2, d3] => { results := [.lit (.bool false)], args := [d1, d2, d3] }
  | _ => none }
def MarksBackWrongFalsely : Prop := marksBackRow.holds Try.pinned (OpenSpec.ofChange marksBackWrong)

/-- 'marginalialaw18.SpaceMade': WHATEVER THE INPUT: true; the input reads as it did. -/
def spaceMadeSpec : ChangeSpec := { name := "spaceMade", fn := fun _ => fun
  | [d] => { results := [.lit (.bool true)], args := [d] }
  | _ => none }
def spaceMadeRow : OpenClaim := { program := "ytmdmoohkdkooaaa", sum := "d8b50122ccf3239b58e589577740d7231a2645174a2db1f5f2cc65b5ccc3fec6", func := "marginalia/marginalialaw18.SpaceMade", spec := "spaceMade", unfollowed := true, recurses := true, apart := false }
def SpaceMadeSaid : Prop := spaceMadeRow.holds Try.pinned (OpenSpec.ofChange spaceMadeSpec)

/-- ITS FALSE NEIGHBOUR: 'it returns false'. Refute it at one input. -/
def spaceMadeWrong : ChangeSpec := { name := "spaceMade", fn := fun _ => fun
  | [d] => { results := [.lit (.bool false)], args := [d] }
  | _ => none }
def SpaceMadeWrongFalsely : Prop := spaceMadeRow.holds Try.pinned (OpenSpec.ofChange spaceMadeWrong)

/-- 'marginalialaw18.SpacePlays': WHATEVER THE INPUT: true; the input reads as it did. -/
def spacePlaysSpec : ChangeSpec := { name := "spacePlays", fn := fun _ => fun
  | [d1, d2] => { results := [.lit (.bool true)], args := [d1, d2] }
  | _ => none }
def spacePlaysRow : OpenClaim := { program := "ytmdmoohkdkooaaa", sum := "d8b50122ccf3239b58e589577740d7231a2645174a2db1f5f2cc65b5ccc3fec6", func := "marginalia/marginalialaw18.SpacePlays", spec := "spacePlays", unfollowed := true, recurses := true, apart := false }
def SpacePlaysSaid : Prop := spacePlaysRow.holds Try.pinned (OpenSpec.ofChange spacePlaysSpec)

/-- ITS FALSE NEIGHBOUR: 'it returns false'. Refute it at one input. -/
def spacePlaysWrong : ChangeSpec := { name := "spacePlays", fn := fun _ => fun
  | [d1, d2] => { results := [.lit (.bool false)], args := [d1, d2] }
  | _ => none }
def SpacePlaysWrongFalsely : Prop := spacePlaysRow.holds Try.pinned (OpenSpec.ofChange spacePlaysWrong)

/-- 'marginalialaw18.SpaceLeast': WHATEVER THE INPUT: true; the input reads as it did. -/
def spaceLeastSpec : ChangeSpec := { name := "spaceLeast", fn := fun _ => fun
  | [d1, d2] => { results := [.lit (.bool true)], args := [d1, d2] }
  | _ => none }
def spaceLeastRow : OpenClaim := { program := "ytmdmoohkdkooaaa", sum := "d8b50122ccf3239b58e589577740d7231a2645174a2db1f5f2cc65b5ccc3fec6", func := "marginalia/marginalialaw18.SpaceLeast", spec := "spaceLeast", unfollowed := true, recurses := true, apart := false }
def SpaceLeastSaid : Prop := spaceLeastRow.holds Try.pinned (OpenSpec.ofChange spaceLeastSpec)

/-- ITS FALSE NEIGHBOUR: 'it returns false'. Refute it at one input. -/
def spaceLeastWrong : ChangeSpec := { name := "spaceLeast", fn := fun _ => fun
  | [d1, d2] => { results := [.lit (.bool false)], args := [d1, d2] }
  | _ => none }
def SpaceLeastWrongFalsely : Prop := spaceLeastRow.holds Try.pinned (OpenSpec.ofChange spaceLeastWrong)

/-- 'marginalialaw18.SpaceNil': WHATEVER THE INPUT: true; the input reads as it did. -/
def spaceNilSpec : ChangeSpec := { name := "spaceNil", fn := fun _ => fun
  | [d1, d2] => { results := [.lit (.bool true)], args := [d1, d2] }
  | _ => none }
def spaceNilRow : OpenClaim := { program := "ytmdmoohkdkooaaa", sum := "d8b50122ccf3239b58e589577740d7231a2645174a2db1f5f2cc65b5ccc3fec6", func := "marginalia/marginalialaw18.SpaceNil", spec := "spaceNil", unfollowed := true, recurses := true, apart := false }
def SpaceNilSaid : Prop := spaceNilRow.holds Try.pinned (OpenSpec.ofChange spaceNilSpec)

/-- ITS FALSE NEIGHBOUR: 'it returns false'. Refute it at one input. -/
def spaceNilWrong : ChangeSpec := { name := "spaceNil", fn := fun _ => fun
  | [d1, d2] => { results := [.lit (.bool false)], args := [d1, d2] }
  | _ => none }
def SpaceNilWrongFalsely : Prop := spaceNilRow.holds Try.pinned (OpenSpec.ofChange spaceNilWrong)

/- THE SECOND FORM. 'bulk': how many values and letters a reading holds, each counted each time it is reached (what is shared counts as often as it is met; a slice's spare places count too). A statement '..UptoSaid' is the law's where the arguments, and the package variables that the reading takes, are together of bulk at most 1048576: NARROWER than '..Said'. Prove '..Said' where nothing that the law and all that it calls make is longer than what came in: it says more and counts as full. Else prove '..UptoSaid'. A law counts once. -/
mutual
def uptoBulk {H : Type} : DataW H → Nat
  | .lit (.string bytes) => bytes.length + 1
  | .lit _ => 1
  | .nil => 1
  | .ptr d => uptoBulk d + 1
  | .slice elems spare => uptoBulkAll elems + uptoBulkAll spare + 1
  | .agg parts => uptoBulkAll parts + 1
  | .iface _ d => uptoBulk d + 1
  | .map entries => uptoBulkEntries entries + 1
  | .held _ => 1
def uptoBulkAll {H : Type} : List (DataW H) → Nat
  | [] => 0
  | d :: r => uptoBulk d + uptoBulkAll r
def uptoBulkEntries {H : Type} : List (Lit × DataW H) → Nat
  | [] => 0
  | x :: r => uptoBulkEntry x + uptoBulkEntries r
def uptoBulkEntry {H : Type} : Lit × DataW H → Nat
  | (.string bytes, d) => bytes.length + uptoBulk d + 1
  | (_, d) => uptoBulk d + 1
 end
def uptoSmall : (H : Type) → List (DataW H) → Bool := fun _ ds => decide (uptoBulkAll ds ≤ 1048576)
def OpenSpec.upto (s : _root_.Go.ChangeSpec) : _root_.Go.OpenSpec := { _root_.Go.OpenSpec.ofChange s with cond := some uptoSmall }

/-- 'marginalialaw07.MarksAlike', WHERE WHAT IT READS IS OF BULK AT MOST 1048576: true; the input reads as it did. -/
def marksAlikeUptoRow : OpenClaim := { program := "ytmdmoohkdkooaaa", sum := "d8b50122ccf3239b58e589577740d7231a2645174a2db1f5f2cc65b5ccc3fec6", func := "marginalia/marginalialaw07.MarksAlike", spec := "marksAlike", unfollowed := true, recurses := true, apart := false, narrowed := true }
def MarksAlikeUptoSaid : Prop := marksAlikeUptoRow.holds Try.pinned (OpenSpec.upto marksAlikeSpec)

/-- 'marginalialaw07.MarksPush', WHERE WHAT IT READS IS OF BULK AT MOST 1048576: true; the input reads as it did. -/
def marksPushUptoRow : OpenClaim := { program := "ytmdmoohkdkooaaa", sum := "d8b50122ccf3239b58e589577740d7231a2645174a2db1f5f2cc65b5ccc3fec6", func := "marginalia/marginalialaw07.MarksPush", spec := "marksPush", unfollowed := true, recurses := true, apart := false, narrowed := true }
def MarksPushUptoSaid : Prop := marksPushUptoRow.holds Try.pinned (OpenSpec.upto marksPushSpec)

/-- 'marginalialaw07.MarksFinds', WHERE WHAT IT READS IS OF BULK AT MOST 1048576: true; the input reads as it did. -/
def marksFindsUptoRow : OpenClaim := { program := "ytmdmoohkdkooaaa", sum := "d8b50122ccf3239b58e589577740d7231a2645174a2db1f5f2cc65b5ccc3fec6", func := "marginalia/marginalialaw07.MarksFinds", spec := "marksFinds", unfollowed := true, recurses := true, apart := false, narrowed := true }
def MarksFindsUptoSaid : Prop := marksFindsUptoRow.holds Try.pinned (OpenSpec.upto marksFindsSpec)

/-- 'marginalialaw07.MarksThree', WHERE WHAT IT READS IS OF BULK AT MOST 1048576: true; the input reads as it did. -/
def marksThreeUptoRow : OpenClaim := { program := "ytmdmoohkdkooaaa", sum := "d8b50122ccf3239b58e589577740d7231a2645174a2db1f5f2cc65b5ccc3fec6", func := "marginalia/marginalialaw07.MarksThree", spec := "marksThree", unfollowed := true, recurses := true, apart := false, narrowed := true }
def MarksThreeUptoSaid : Prop := marksThreeUptoRow.holds Try.pinned (OpenSpec.upto marksThreeSpec)

/-- 'marginalialaw07.MarksTurns', WHERE WHAT IT READS IS OF BULK AT MOST 1048576: true; the input reads as it did. -/
def marksTurnsUptoRow : OpenClaim := { program := "ytmdmoohkdkooaaa", sum := "d8b50122ccf3239b58e589577740d7231a2645174a2db1f5f2cc65b5ccc3fec6", func := "marginalia/marginalialaw07.MarksTurns", spec := "marksTurns", unfollowed := true, recurses := true, apart := false, narrowed := true }
def MarksTurnsUptoSaid : Prop := marksTurnsUptoRow.holds Try.pinned (OpenSpec.upto marksTurnsSpec)

/-- 'marginalialaw07.MarksBack', WHERE WHAT IT READS IS OF BULK AT MOST 1048576: true; the input reads as it did. -/
def marksBackUptoRow : OpenClaim := { program := "ytmdmoohkdkooaaa", sum := "d8b50122ccf3239b58e589577740d7231a2645174a2db1f5f2cc65b5ccc3fec6", func := "marginalia/marginalialaw07.MarksBack", spec := "marksBack", unfollowed := true, recurses := true, apart := false, narrowed := true }
def MarksBackUptoSaid : Prop := marksBackUptoRow.holds Try.pinned (OpenSpec.upto marksBackSpec)

/-- 'marginalialaw18.SpaceMade', WHERE WHAT IT READS IS OF BULK AT MOST 1048576: true; the input reads as it did. -/
def spaceMadeUptoRow : OpenClaim := { program := "ytmdmoohkdkooaaa", sum := "d8b50122ccf3239b58e589577740d7231a2645174a2db1f5f2cc65b5ccc3fec6", func := "marginalia/marginalialaw18.SpaceMade", spec := "spaceMade", unfollowed := true, recurses := true, apart := false, narrowed := true }
def SpaceMadeUptoSaid : Prop := spaceMadeUptoRow.holds Try.pinned (OpenSpec.upto spaceMadeSpec)

/-- 'marginalialaw18.SpacePlays', WHERE WHAT IT READS IS OF BULK AT MOST 1048576: true; the input reads as it did. -/
def spacePlaysUptoRow : OpenClaim := { program := "ytmdmoohkdkooaaa", sum := "d8b50122ccf3239b58e589577740d7231a2645174a2db1f5f2cc65b5ccc3fec6", func := "marginalia/marginalialaw18.SpacePlays", spec := "spacePlays", unfollowed := true, recurses := true, apart := false, narrowed := true }
def SpacePlaysUptoSaid : Prop := spacePlaysUptoRow.holds Try.pinned (OpenSpec.upto spacePlaysSpec)

/-- 'marginalialaw18.SpaceLeast', WHERE WHAT IT READS IS OF BULK AT MOST 1048576: true; the input reads as it did. -/
def spaceLeastUptoRow : OpenClaim := { program := "ytmdmoohkdkooaaa", sum := "d8b50122ccf3239b58e589577740d7231a2645174a2db1f5f2cc65b5ccc3fec6", func := "marginalia/marginalialaw18.SpaceLeast", spec := "spaceLeast", unfollowed := true, recurses := true, apart := false, narrowed := true }
def SpaceLeastUptoSaid : Prop := spaceLeastUptoRow.holds Try.pinned (OpenSpec.upto spaceLeastSpec)

/-- 'marginalialaw18.SpaceNil', WHERE WHAT IT READS IS OF BULK AT MOST 1048576: true; the input reads as it did. -/
def spaceNilUptoRow : OpenClaim := { program := "ytmdmoohkdkooaaa", sum := "d8b50122ccf3239b58e589577740d7231a2645174a2db1f5f2cc65b5ccc3fec6", func := "marginalia/marginalialaw18.SpaceNil", spec := "spaceNil", unfollowed := true, recurses := true, apart := false, narrowed := true }
def SpaceNilUptoSaid : Prop := spaceNilUptoRow.holds Try.pinned (OpenSpec.upto spaceNilSpec)

end Rows
end Go.Proofs.Ytmdmoohkdkooaaa
