/-
  No cell of these rows narrows 'for every input' (looked for: loops, veiled, ifaces, maps, wideKeys, modest, calm, conditions, laid).
  DERIVED. THE GIVEN ROWS OF THIS SEAT. 11 by the template 'for every input the law returns true; each argument reads behind the call as it read before'; 0 by the template 'total and deterministic' (their statements: YtnkaidaflegnlaaTotals.lean).
  GIVEN WITH THE SEED: the statements are not yours to turn. If you find one false, say at which input.
  Laid BY PROGRAM, IN A SANDBOX (cutbox-rows.mjs): the forced cells as the released guide's own fill.sh prints them over the translation 82112ea580fc05f5… (all of the seat's roots in one cut). By AI agents, Wed Nov 11 2026. No macro, syntax, notation, axiom, sorry.
-/
import Derived.Test.YtnkaidaflegnlaaChecked
import GoSem.Claim
import GoSem.ClaimJoined
import GoSem.ClaimMapViews
import Derived.JoinedTies
import Derived.KernelRfl
namespace Go.Proofs.Ytnkaidaflegnlaa
/- THE CELL 'sum', in the pinned program and in every row, IS THE sha256 OF THE DUMP (.gsa) THAT YtnkaidaflegnlaaProg.lean LOADS. Nothing in Lean hashes anything: it is a label: what it is worth is what the hold of that sum in a sandbox is worth. -/
noncomputable def Try.pinned : Pinned := { name := "ytnkaidaflegnlaa", sum := "82112ea580fc05f521d19280ad2c8c77f4d0d81cbc79a440dde95b98b826c905", checked := Try.checked }
namespace Rows
def none {H : Type} : Left H := { results := [], args := [] }

/-- 'marginalialaw20.PageCheck': WHATEVER THE INPUT: true; the input reads as it did. -/
def pageCheckSpec : ChangeSpec := { name := "pageCheck", fn := fun _ => fun
  | [d] => { results := [.lit (.bool true)], args := [d] }
  | _ => none }
def pageCheckRow : OpenClaim := { program := "ytnkaidaflegnlaa", sum := "82112ea580fc05f521d19280ad2c8c77f4d0d81cbc79a440dde95b98b826c905", func := "marginalia/marginalialaw20.PageCheck", spec := "pageCheck", unfollowed := true, recurses := true, apart := false }
def PageCheckSaid : Prop := pageCheckRow.holds Try.pinned (OpenSpec.ofChange pageCheckSpec)

/-- ITS FALSE NEIGHBOUR: 'it returns false'. Refute it at one input. -/
def pageCheckWrong : ChangeSpec := { name := "pageCheck", fn := fun _ => fun
  | [d] => { results := [.lit (.bool false)], args := [d] }
  | _ => none }
def PageCheckWrongFalsely : Prop := pageCheckRow.holds Try.pinned (OpenSpec.ofChange pageCheckWrong)

/-- 'marginalialaw20.PageEncode': WHATEVER THE INPUT: true; the input reads as it did. -/
def pageEncodeSpec : ChangeSpec := { name := "pageEncode", fn := fun _ => fun
  | [d] => { results := [.lit (.bool true)], args := [d] }
  | _ => none }
def pageEncodeRow : OpenClaim := { program := "ytnkaidaflegnlaa", sum := "82112ea580fc05f521d19280ad2c8c77f4d0d81cbc79a440dde95b98b826c905", func := "marginalia/marginalialaw20.PageEncode", spec := "pageEncode", unfollowed := true, recurses := true, apart := false }
def PageEncodeSaid : Prop := pageEncodeRow.holds Try.pinned (OpenSpec.ofChange pageEncodeSpec)

/-- ITS FALSE NEIGHBOUR: 'it returns false'. Refute it at one input. -/
def pageEncodeWrong : ChangeSpec := { name := "pageEncode", fn := fun _ => fun
  | [d] => { results := [.lit (.bool false)], args := [d] }
  | _ => none }
def PageEncodeWrongFalsely : Prop := pageEncodeRow.holds Try.pinned (OpenSpec.ofChange pageEncodeWrong)

/-- 'marginalialaw20.PageDecode': WHATEVER THE INPUT: true; the input reads as it did. -/
def pageDecodeSpec : ChangeSpec := { name := "pageDecode", fn := fun _ => fun
  | [d] => { results := [.lit (.bool true)], args := [d] }
  | _ => none }
def pageDecodeRow : OpenClaim := { program := "ytnkaidaflegnlaa", sum := "82112ea580fc05f521d19280ad2c8c77f4d0d81cbc79a440dde95b98b826c905", func := "marginalia/marginalialaw20.PageDecode", spec := "pageDecode", unfollowed := true, recurses := true, apart := false }
def PageDecodeSaid : Prop := pageDecodeRow.holds Try.pinned (OpenSpec.ofChange pageDecodeSpec)

/-- ITS FALSE NEIGHBOUR: 'it returns false'. Refute it at one input. -/
def pageDecodeWrong : ChangeSpec := { name := "pageDecode", fn := fun _ => fun
  | [d] => { results := [.lit (.bool false)], args := [d] }
  | _ => none }
def PageDecodeWrongFalsely : Prop := pageDecodeRow.holds Try.pinned (OpenSpec.ofChange pageDecodeWrong)

/-- 'marginalialaw20.PageBack': WHATEVER THE INPUT: true; the input reads as it did. -/
def pageBackSpec : ChangeSpec := { name := "pageBack", fn := fun _ => fun
  | [d] => { results := [.lit (.bool true)], args := [d] }
  | _ => none }
def pageBackRow : OpenClaim := { program := "ytnkaidaflegnlaa", sum := "82112ea580fc05f521d19280ad2c8c77f4d0d81cbc79a440dde95b98b826c905", func := "marginalia/marginalialaw20.PageBack", spec := "pageBack", unfollowed := true, recurses := true, apart := false }
def PageBackSaid : Prop := pageBackRow.holds Try.pinned (OpenSpec.ofChange pageBackSpec)

/-- ITS FALSE NEIGHBOUR: 'it returns false'. Refute it at one input. -/
def pageBackWrong : ChangeSpec := { name := "pageBack", fn := fun _ => fun
  | [d] => { results := [.lit (.bool false)], args := [d] }
  | _ => none }
def PageBackWrongFalsely : Prop := pageBackRow.holds Try.pinned (OpenSpec.ofChange pageBackWrong)

/-- 'marginalialaw20.PageOnly': WHATEVER THE INPUT: true; the input reads as it did. -/
def pageOnlySpec : ChangeSpec := { name := "pageOnly", fn := fun _ => fun
  | [d] => { results := [.lit (.bool true)], args := [d] }
  | _ => none }
def pageOnlyRow : OpenClaim := { program := "ytnkaidaflegnlaa", sum := "82112ea580fc05f521d19280ad2c8c77f4d0d81cbc79a440dde95b98b826c905", func := "marginalia/marginalialaw20.PageOnly", spec := "pageOnly", unfollowed := true, recurses := true, apart := false }
def PageOnlySaid : Prop := pageOnlyRow.holds Try.pinned (OpenSpec.ofChange pageOnlySpec)

/-- ITS FALSE NEIGHBOUR: 'it returns false'. Refute it at one input. -/
def pageOnlyWrong : ChangeSpec := { name := "pageOnly", fn := fun _ => fun
  | [d] => { results := [.lit (.bool false)], args := [d] }
  | _ => none }
def PageOnlyWrongFalsely : Prop := pageOnlyRow.holds Try.pinned (OpenSpec.ofChange pageOnlyWrong)

/-- 'marginalialaw05.ArenaFull': WHATEVER THE INPUT: true; the input reads as it did. -/
def arenaFullSpec : ChangeSpec := { name := "arenaFull", fn := fun _ => fun
  | [d1, d2] => { results := [.lit (.bool true)], args := [d1, d2] }
  | _ => none }
def arenaFullRow : OpenClaim := { program := "ytnkaidaflegnlaa", sum := "82112ea580fc05f521d19280ad2c8c77f4d0d81cbc79a440dde95b98b826c905", func := "marginalia/marginalialaw05.ArenaFull", spec := "arenaFull", inPlace := ["slices.overlaps[int]"], apart := false }
def ArenaFullSaid : Prop := arenaFullRow.holds Try.pinned (OpenSpec.ofChange arenaFullSpec)

/-- ITS FALSE NEIGHBOUR: 'it returns false'. Refute it at one input. -/
def arenaFullWrong : ChangeSpec := { name := "arenaFull", fn := fun _ => fun
  | [d1, d2] => { results := [.lit (.bool false)], args := [d1, d2] }
  | _ => none }
def ArenaFullWrongFalsely : Prop := arenaFullRow.holds Try.pinned (OpenSpec.ofChange arenaFullWrong)

/-- 'marginalialaw05.ArenaOnce': WHATEVER THE INPUT: true; the input reads as it did. -/
def arenaOnceSpec : ChangeSpec := { name := "arenaOnce", fn := fun _ => fun
  | [d] => { results := [.lit (.bool true)], args := [d] }
  | _ => none }
def arenaOnceRow : OpenClaim := { program := "ytnkaidaflegnlaa", sum := "82112ea580fc05f521d19280ad2c8c77f4d0d81cbc79a440dde95b98b826c905", func := "marginalia/marginalialaw05.ArenaOnce", spec := "arenaOnce", inPlace := ["slices.overlaps[int]"], apart := false }
def ArenaOnceSaid : Prop := arenaOnceRow.holds Try.pinned (OpenSpec.ofChange arenaOnceSpec)

/-- ITS FALSE NEIGHBOUR: 'it returns false'. Refute it at one input. -/
def arenaOnceWrong : ChangeSpec := { name := "arenaOnce", fn := fun _ => fun
  | [d] => { results := [.lit (.bool false)], args := [d] }
  | _ => none }
def ArenaOnceWrongFalsely : Prop := arenaOnceRow.holds Try.pinned (OpenSpec.ofChange arenaOnceWrong)

/-- 'marginalialaw05.ArenaBack': WHATEVER THE INPUT: true; the input reads as it did. -/
def arenaBackSpec : ChangeSpec := { name := "arenaBack", fn := fun _ => fun
  | [d1, d2] => { results := [.lit (.bool true)], args := [d1, d2] }
  | _ => none }
def arenaBackRow : OpenClaim := { program := "ytnkaidaflegnlaa", sum := "82112ea580fc05f521d19280ad2c8c77f4d0d81cbc79a440dde95b98b826c905", func := "marginalia/marginalialaw05.ArenaBack", spec := "arenaBack", inPlace := ["slices.overlaps[int]"], recurses := true, apart := false }
def ArenaBackSaid : Prop := arenaBackRow.holds Try.pinned (OpenSpec.ofChange arenaBackSpec)

/-- ITS FALSE NEIGHBOUR: 'it returns false'. Refute it at one input. -/
def arenaBackWrong : ChangeSpec := { name := "arenaBack", fn := fun _ => fun
  | [d1, d2] => { results := [.lit (.bool false)], args := [d1, d2] }
  | _ => none }
def ArenaBackWrongFalsely : Prop := arenaBackRow.holds Try.pinned (OpenSpec.ofChange arenaBackWrong)

/-- 'marginalialaw05.ArenaPlays': WHATEVER THE INPUT: true; the input reads as it did. -/
def arenaPlaysSpec : ChangeSpec := { name := "arenaPlays", fn := fun _ => fun
  | [d1, d2] => { results := [.lit (.bool true)], args := [d1, d2] }
  | _ => none }
def arenaPlaysRow : OpenClaim := { program := "ytnkaidaflegnlaa", sum := "82112ea580fc05f521d19280ad2c8c77f4d0d81cbc79a440dde95b98b826c905", func := "marginalia/marginalialaw05.ArenaPlays", spec := "arenaPlays", inPlace := ["slices.overlaps[int]"], recurses := true, apart := false }
def ArenaPlaysSaid : Prop := arenaPlaysRow.holds Try.pinned (OpenSpec.ofChange arenaPlaysSpec)

/-- ITS FALSE NEIGHBOUR: 'it returns false'. Refute it at one input. -/
def arenaPlaysWrong : ChangeSpec := { name := "arenaPlays", fn := fun _ => fun
  | [d1, d2] => { results := [.lit (.bool false)], args := [d1, d2] }
  | _ => none }
def ArenaPlaysWrongFalsely : Prop := arenaPlaysRow.holds Try.pinned (OpenSpec.ofChange arenaPlaysWrong)

/-- 'marginalialaw05.ArenaLost': WHATEVER THE INPUT: true; the input reads as it did. -/
def arenaLostSpec : ChangeSpec := { name := "arenaLost", fn := fun _ => fun
  | [d] => { results := [.lit (.bool true)], args := [d] }
  | _ => none }
def arenaLostRow : OpenClaim := { program := "ytnkaidaflegnlaa", sum := "82112ea580fc05f521d19280ad2c8c77f4d0d81cbc79a440dde95b98b826c905", func := "marginalia/marginalialaw05.ArenaLost", spec := "arenaLost", inPlace := ["slices.overlaps[int]"], recurses := true, apart := false }
def ArenaLostSaid : Prop := arenaLostRow.holds Try.pinned (OpenSpec.ofChange arenaLostSpec)

/-- ITS FALSE NEIGHBOUR: 'it returns false'. Refute it at one input. -/
def arenaLostWrong : ChangeSpec := { name := "arenaLost", fn := fun _ => fun
  | [d] => { results := [.lit (.bool false)], args := [d] }
  | _ => none }
def ArenaLostWrongFalsely : Prop := arenaLostRow.holds Try.pinned (OpenSpec.ofChange arenaLostWrong)

/-- 'marginalialaw05.ArenaNil': WHATEVER THE INPUT: true; the input reads as it did. -/
def arenaNilSpec : ChangeSpec := { name := "arenaNil", fn := fun _ => fun
  | [d1, d2, d3] => { results := [.lit (.bool true)], args := [d1, d2, d3] }
  | _ => none }
def arenaNilRow : OpenClaim := { program := "ytnkaidaflegnlaa", sum := "82112ea580fc05f521d19280ad2c8c77f4d0d81cbc79a440dde95b98b826c905", func := "marginalia/marginalialaw05.ArenaNil", spec := "arenaNil", inPlace := ["slices.overlaps[int]"], recurses := true, apart := false }
def ArenaNilSaid : Prop := arenaNilRow.holds Try.pinned (OpenSpec.ofChange arenaNilSpec)

/-- ITS FALSE NEIGHBOUR: 'it returns false'. Refute it at one input. -/
def arenaNilWrong : ChangeSpec := { name := "arenaNil", fn := fun _ => fun
  | [d1, d2, d3] => { results := [.lit (.bool false)], args := [d1, d2, d3] }
  | _ => none }
def ArenaNilWrongFalsely : Prop := arenaNilRow.holds Try.pinned (OpenSpec.ofChange arenaNilWrong)

/- THE SECOND FORM. 'bulk': how many values and letters a reading holds, each counted each time it is reached (what is shared counts as often as it is met; a slice's spare places count too). A statement '..UptoSaid' is the law's where the arguments, and the package variables that the reading takes, are together of bulk at most 1048576: NARROWER than '..Said'. Prove '..Said' where nothing that the law and all that it calls make is longer than what came in: it says more and counts as full. Else prove '..UptoSaid'. A law counts once. -/
mutual
def uptoBulk {H : Type} : DataW H → Nat
  | .lit (.string bytes) => bytes.length + 1
  | .lit _ => 1
  | .nil => 1
  | .ptr d => uptoBulk d + 1
  | .slice elems spare => uptoBulkAll elems + uptoBulkAll spare + 1
  | .agg parts => uptoBulkAll parts + 1
  | .iface _ d => uptoBulk d + 1
  | .map entries => uptoBulkEntries entries + 1
  | .held _ => 1
def uptoBulkAll {H : Type} : List (DataW H) → Nat
  | [] => 0
  | d :: r => uptoBulk d + uptoBulkAll r
def uptoBulkEntries {H : Type} : List (Lit × DataW H) → Nat
  | [] => 0
  | x :: r => uptoBulkEntry x + uptoBulkEntries r
def uptoBulkEntry {H : Type} : Lit × DataW H → Nat
  | (.string bytes, d) => bytes.length + uptoBulk d + 1
  | (_, d) => uptoBulk d + 1
 end
def uptoSmall : (H : Type) → List (DataW H) → Bool := fun _ ds => decide (uptoBulkAll ds ≤ 1048576)
def OpenSpec.upto (s : _root_.Go.ChangeSpec) : _root_.Go.OpenSpec := { _root_.Go.OpenSpec.ofChange s with cond := some uptoSmall }

/-- 'marginalialaw20.PageCheck', WHERE WHAT IT READS IS OF BULK AT MOST 1048576: true; the input reads as it did. -/
def pageCheckUptoRow : OpenClaim := { program := "ytnkaidaflegnlaa", sum := "82112ea580fc05f521d19280ad2c8c77f4d0d81cbc79a440dde95b98b826c905", func := "marginalia/marginalialaw20.PageCheck", spec := "pageCheck", unfollowed := true, recurses := true, apart := false, narrowed := true }
def PageCheckUptoSaid : Prop := pageCheckUptoRow.holds Try.pinned (OpenSpec.upto pageCheckSpec)

/-- 'marginalialaw20.PageEncode', WHERE WHAT IT READS IS OF BULK AT MOST 1048576: true; the input reads as it did. -/
def pageEncodeUptoRow : OpenClaim := { program := "ytnkaidaflegnlaa", sum := "82112ea580fc05f521d19280ad2c8c77f4d0d81cbc79a440dde95b98b826c905", func := "marginalia/marginalialaw20.PageEncode", spec := "pageEncode", unfollowed := true, recurses := true, apart := false, narrowed := true }
def PageEncodeUptoSaid : Prop := pageEncodeUptoRow.holds Try.pinned (OpenSpec.upto pageEncodeSpec)

/-- 'marginalialaw20.PageDecode', WHERE WHAT IT READS IS OF BULK AT MOST 1048576: true; the input reads as it did. -/
def pageDecodeUptoRow : OpenClaim := { program := "ytnkaidaflegnlaa", sum := "82112ea580fc05f521d19280ad2c8c77f4d0d81cbc79a440dde95b98b826c905", func := "marginalia/marginalialaw20.PageDecode", spec := "pageDecode", unfollowed := true, recurses := true, apart := false, narrowed := true }
def PageDecodeUptoSaid : Prop := pageDecodeUptoRow.holds Try.pinned (OpenSpec.upto pageDecodeSpec)

/-- 'marginalialaw20.PageBack', WHERE WHAT IT READS IS OF BULK AT MOST 1048576: true; the input reads as it did. -/
def pageBackUptoRow : OpenClaim := { program := "ytnkaidaflegnlaa", sum := "82112ea580fc05f521d19280ad2c8c77f4d0d81cbc79a440dde95b98b826c905", func := "marginalia/marginalialaw20.PageBack", spec := "pageBack", unfollowed := true, recurses := true, apart := false, narrowed := true }
def PageBackUptoSaid : Prop := pageBackUptoRow.holds Try.pinned (OpenSpec.upto pageBackSpec)

/-- 'marginalialaw20.PageOnly', WHERE WHAT IT READS IS OF BULK AT MOST 1048576: true; the input reads as it did. -/
def pageOnlyUptoRow : OpenClaim := { program := "ytnkaidaflegnlaa", sum := "82112ea580fc05f521d19280ad2c8c77f4d0d81cbc79a440dde95b98b826c905", func := "marginalia/marginalialaw20.PageOnly", spec := "pageOnly", unfollowed := true, recurses := true, apart := false, narrowed := true }
def PageOnlyUptoSaid : Prop := pageOnlyUptoRow.holds Try.pinned (OpenSpec.upto pageOnlySpec)

/-- 'marginalialaw05.ArenaFull', WHERE WHAT IT READS IS OF BULK AT MOST 1048576: true; the input reads as it did. -/
def arenaFullUptoRow : OpenClaim := { program := "ytnkaidaflegnlaa", sum := "82112ea580fc05f521d19280ad2c8c77f4d0d81cbc79a440dde95b98b826c905", func := "marginalia/marginalialaw05.ArenaFull", spec := "arenaFull", inPlace := ["slices.overlaps[int]"], apart := false, narrowed := true }
def ArenaFullUptoSaid : Prop := arenaFullUptoRow.holds Try.pinned (OpenSpec.upto arenaFullSpec)

/-- 'marginalialaw05.ArenaOnce', WHERE WHAT IT READS IS OF BULK AT MOST 1048576: true; the input reads as it did. -/
def arenaOnceUptoRow : OpenClaim := { program := "ytnkaidaflegnlaa", sum := "82112ea580fc05f521d19280ad2c8c77f4d0d81cbc79a440dde95b98b826c905", func := "marginalia/marginalialaw05.ArenaOnce", spec := "arenaOnce", inPlace := ["slices.overlaps[int]"], apart := false, narrowed := true }
def ArenaOnceUptoSaid : Prop := arenaOnceUptoRow.holds Try.pinned (OpenSpec.upto arenaOnceSpec)

/-- 'marginalialaw05.ArenaBack', WHERE WHAT IT READS IS OF BULK AT MOST 1048576: true; the input reads as it did. -/
def arenaBackUptoRow : OpenClaim := { program := "ytnkaidaflegnlaa", sum := "82112ea580fc05f521d19280ad2c8c77f4d0d81cbc79a440dde95b98b826c905", func := "marginalia/marginalialaw05.ArenaBack", spec := "arenaBack", inPlace := ["slices.overlaps[int]"], recurses := true, apart := false, narrowed := true }
def ArenaBackUptoSaid : Prop := arenaBackUptoRow.holds Try.pinned (OpenSpec.upto arenaBackSpec)

/-- 'marginalialaw05.ArenaPlays', WHERE WHAT IT READS IS OF BULK AT MOST 1048576: true; the input reads as it did. -/
def arenaPlaysUptoRow : OpenClaim := { program := "ytnkaidaflegnlaa", sum := "82112ea580fc05f521d19280ad2c8c77f4d0d81cbc79a440dde95b98b826c905", func := "marginalia/marginalialaw05.ArenaPlays", spec := "arenaPlays", inPlace := ["slices.overlaps[int]"], recurses := true, apart := false, narrowed := true }
def ArenaPlaysUptoSaid : Prop := arenaPlaysUptoRow.holds Try.pinned (OpenSpec.upto arenaPlaysSpec)

/-- 'marginalialaw05.ArenaLost', WHERE WHAT IT READS IS OF BULK AT MOST 1048576: true; the input reads as it did. -/
def arenaLostUptoRow : OpenClaim := { program := "ytnkaidaflegnlaa", sum := "82112ea580fc05f521d19280ad2c8c77f4d0d81cbc79a440dde95b98b826c905", func := "marginalia/marginalialaw05.ArenaLost", spec := "arenaLost", inPlace := ["slices.overlaps[int]"], recurses := true, apart := false, narrowed := true }
def ArenaLostUptoSaid : Prop := arenaLostUptoRow.holds Try.pinned (OpenSpec.upto arenaLostSpec)

/-- 'marginalialaw05.ArenaNil', WHERE WHAT IT READS IS OF BULK AT MOST 1048576: true; the input reads as it did. -/
def arenaNilUptoRow : OpenClaim := { program := "ytnkaidaflegnlaa", sum := "82112ea580fc05f521d19280ad2c8c77f4d0d81cbc79a440dde95b98b826c905", func := "marginalia/marginalialaw05.ArenaNil", spec := "arenaNil", inPlace := ["slices.overlaps[int]"], recurses := true, apart := false, narrowed := true }
def ArenaNilUptoSaid : Prop := arenaNilUptoRow.holds Try.pinned (OpenSpec.upto arenaNilSpec)

end Rows
end Go.Proofs.Ytnkaidaflegnlaa
