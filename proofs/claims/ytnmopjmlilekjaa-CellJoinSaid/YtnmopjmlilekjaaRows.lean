/-
  No cell of these rows narrows 'for every input' (looked for: loops, veiled, ifaces, maps, wideKeys, modest, calm, conditions, laid).
  DERIVED. THE GIVEN ROWS OF THIS SEAT. 11 by the template 'for every input the law returns true; each argument reads behind the call as it read before'; 0 by the template 'total and deterministic' (their statements: YtnmopjmlilekjaaTotals.lean).
  GIVEN WITH THE SEED: the statements are not yours to turn. If you find one false, say at which input.
  Laid BY PROGRAM, IN A SANDBOX (cutbox-rows.mjs): the forced cells as the released guide's own fill.sh prints them over the translation 03e4d4cea6d42b89… (all of the seat's roots in one cut). By AI agents, Wed Nov 11 2026. No macro, syntax, notation, axiom, sorry.
-/
import Derived.Test.YtnmopjmlilekjaaChecked
import GoSem.Claim
import GoSem.ClaimJoined
import GoSem.ClaimMapViews
import Derived.JoinedTies
import Derived.KernelRfl
namespace Go.Proofs.Ytnmopjmlilekjaa
/- THE CELL 'sum', in the pinned program and in every row, IS THE sha256 OF THE DUMP (.gsa) THAT YtnmopjmlilekjaaProg.lean LOADS. Nothing in Lean hashes anything: it is a label: what it is worth is what the hold of that sum in a sandbox is worth. -/
noncomputable def Try.pinned : Pinned := { name := "ytnmopjmlilekjaa", sum := "03e4d4cea6d42b89216e0bd3dafcaf540b7db5439ff80624b36203152fce3335", checked := Try.checked }
namespace Rows
def none {H : Type} : Left H := { results := [], args := [] }

/-- 'marginalialaw15.CrcSum': WHATEVER THE INPUT: true; the input reads as it did. -/
def crcSumSpec : ChangeSpec := { name := "crcSum", fn := fun _ => fun
  | [d] => { results := [.lit (.bool true)], args := [d] }
  | _ => none }
def crcSumRow : OpenClaim := { program := "ytnmopjmlilekjaa", sum := "03e4d4cea6d42b89216e0bd3dafcaf540b7db5439ff80624b36203152fce3335", func := "marginalia/marginalialaw15.CrcSum", spec := "crcSum", apart := false }
def CrcSumSaid : Prop := crcSumRow.holds Try.pinned (OpenSpec.ofChange crcSumSpec)

/-- ITS FALSE NEIGHBOUR: 'it returns false'. Refute it at one input. -/
def crcSumWrong : ChangeSpec := { name := "crcSum", fn := fun _ => fun
  | [d] => { results := [.lit (.bool false)], args := [d] }
  | _ => none }
def CrcSumWrongFalsely : Prop := crcSumRow.holds Try.pinned (OpenSpec.ofChange crcSumWrong)

/-- 'marginalialaw15.CrcMore': WHATEVER THE INPUT: true; the input reads as it did. -/
def crcMoreSpec : ChangeSpec := { name := "crcMore", fn := fun _ => fun
  | [d1, d2] => { results := [.lit (.bool true)], args := [d1, d2] }
  | _ => none }
def crcMoreRow : OpenClaim := { program := "ytnmopjmlilekjaa", sum := "03e4d4cea6d42b89216e0bd3dafcaf540b7db5439ff80624b36203152fce3335", func := "marginalia/marginalialaw15.CrcMore", spec := "crcMore", apart := false }
def CrcMoreSaid : Prop := crcMoreRow.holds Try.pinned (OpenSpec.ofChange crcMoreSpec)

/-- ITS FALSE NEIGHBOUR: 'it returns false'. Refute it at one input. -/
def crcMoreWrong : ChangeSpec := { name := "crcMore", fn := fun _ => fun
  | [d1, d2] => { results := [.lit (.bool false)], args := [d1, d2] }
  | _ => none }
def CrcMoreWrongFalsely : Prop := crcMoreRow.holds Try.pinned (OpenSpec.ofChange crcMoreWrong)

/-- 'marginalialaw15.CrcPieces': WHATEVER THE INPUT: true; the input reads as it did. -/
def crcPiecesSpec : ChangeSpec := { name := "crcPieces", fn := fun _ => fun
  | [d1, d2, d3] => { results := [.lit (.bool true)], args := [d1, d2, d3] }
  | _ => none }
def crcPiecesRow : OpenClaim := { program := "ytnmopjmlilekjaa", sum := "03e4d4cea6d42b89216e0bd3dafcaf540b7db5439ff80624b36203152fce3335", func := "marginalia/marginalialaw15.CrcPieces", spec := "crcPieces", apart := false }
def CrcPiecesSaid : Prop := crcPiecesRow.holds Try.pinned (OpenSpec.ofChange crcPiecesSpec)

/-- ITS FALSE NEIGHBOUR: 'it returns false'. Refute it at one input. -/
def crcPiecesWrong : ChangeSpec := { name := "crcPieces", fn := fun _ => fun
  | [d1, d2, d3] => { results := [.lit (.bool false)], args := [d1, d2, d3] }
  | _ => none }
def CrcPiecesWrongFalsely : Prop := crcPiecesRow.holds Try.pinned (OpenSpec.ofChange crcPiecesWrong)

/-- 'marginalialaw15.CrcOne': WHATEVER THE INPUT: true; the input reads as it did. -/
def crcOneSpec : ChangeSpec := { name := "crcOne", fn := fun _ => fun
  | [d1, d2, d3] => { results := [.lit (.bool true)], args := [d1, d2, d3] }
  | _ => none }
def crcOneRow : OpenClaim := { program := "ytnmopjmlilekjaa", sum := "03e4d4cea6d42b89216e0bd3dafcaf540b7db5439ff80624b36203152fce3335", func := "marginalia/marginalialaw15.CrcOne", spec := "crcOne", apart := false }
def CrcOneSaid : Prop := crcOneRow.holds Try.pinned (OpenSpec.ofChange crcOneSpec)

/-- ITS FALSE NEIGHBOUR: 'it returns false'. Refute it at one input. -/
def crcOneWrong : ChangeSpec := { name := "crcOne", fn := fun _ => fun
  | [d1, d2, d3] => { results := [.lit (.bool false)], args := [d1, d2, d3] }
  | _ => none }
def CrcOneWrongFalsely : Prop := crcOneRow.holds Try.pinned (OpenSpec.ofChange crcOneWrong)

/-- 'marginalialaw15.CrcLinear': WHATEVER THE INPUT: true; the input reads as it did. -/
def crcLinearSpec : ChangeSpec := { name := "crcLinear", fn := fun _ => fun
  | [d1, d2, d3] => { results := [.lit (.bool true)], args := [d1, d2, d3] }
  | _ => none }
def crcLinearRow : OpenClaim := { program := "ytnmopjmlilekjaa", sum := "03e4d4cea6d42b89216e0bd3dafcaf540b7db5439ff80624b36203152fce3335", func := "marginalia/marginalialaw15.CrcLinear", spec := "crcLinear", apart := false }
def CrcLinearSaid : Prop := crcLinearRow.holds Try.pinned (OpenSpec.ofChange crcLinearSpec)

/-- ITS FALSE NEIGHBOUR: 'it returns false'. Refute it at one input. -/
def crcLinearWrong : ChangeSpec := { name := "crcLinear", fn := fun _ => fun
  | [d1, d2, d3] => { results := [.lit (.bool false)], args := [d1, d2, d3] }
  | _ => none }
def CrcLinearWrongFalsely : Prop := crcLinearRow.holds Try.pinned (OpenSpec.ofChange crcLinearWrong)

/-- 'marginalialaw16.CellDecode': WHATEVER THE INPUT: true; the input reads as it did. -/
def cellDecodeSpec : ChangeSpec := { name := "cellDecode", fn := fun _ => fun
  | [d] => { results := [.lit (.bool true)], args := [d] }
  | _ => none }
def cellDecodeRow : OpenClaim := { program := "ytnmopjmlilekjaa", sum := "03e4d4cea6d42b89216e0bd3dafcaf540b7db5439ff80624b36203152fce3335", func := "marginalia/marginalialaw16.CellDecode", spec := "cellDecode", unfollowed := true, recurses := true, apart := false }
def CellDecodeSaid : Prop := cellDecodeRow.holds Try.pinned (OpenSpec.ofChange cellDecodeSpec)

/-- ITS FALSE NEIGHBOUR: 'it returns false'. Refute it at one input. -/
def cellDecodeWrong : ChangeSpec := { name := "cellDecode", fn := fun _ => fun
  | [d] => { results := [.lit (.bool false)], args := [d] }
  | _ => none }
def CellDecodeWrongFalsely : Prop := cellDecodeRow.holds Try.pinned (OpenSpec.ofChange cellDecodeWrong)

/-- 'marginalialaw16.CellCut': WHATEVER THE INPUT: true; the input reads as it did. -/
def cellCutSpec : ChangeSpec := { name := "cellCut", fn := fun _ => fun
  | [d1, d2, d3] => { results := [.lit (.bool true)], args := [d1, d2, d3] }
  | _ => none }
def cellCutRow : OpenClaim := { program := "ytnmopjmlilekjaa", sum := "03e4d4cea6d42b89216e0bd3dafcaf540b7db5439ff80624b36203152fce3335", func := "marginalia/marginalialaw16.CellCut", spec := "cellCut", unfollowed := true, recurses := true, apart := false }
def CellCutSaid : Prop := cellCutRow.holds Try.pinned (OpenSpec.ofChange cellCutSpec)

/-- ITS FALSE NEIGHBOUR: 'it returns false'. Refute it at one input. -/
def cellCutWrong : ChangeSpec := { name := "cellCut", fn := fun _ => fun
  | [d1, d2, d3] => { results := [.lit (.bool false)], args := [d1, d2, d3] }
  | _ => none }
def CellCutWrongFalsely : Prop := cellCutRow.holds Try.pinned (OpenSpec.ofChange cellCutWrong)

/-- 'marginalialaw16.CellJoin': WHATEVER THE INPUT: true; the input reads as it did. -/
def cellJoinSpec : ChangeSpec := { name := "cellJoin", fn := fun _ => fun
  | [d] => { results := [.lit (.bool true)], args := [d] }
  | _ => none }
def cellJoinRow : OpenClaim := { program := "ytnmopjmlilekjaa", sum := "03e4d4cea6d42b89216e0bd3dafcaf540b7db5439ff80624b36203152fce3335", func := "marginalia/marginalialaw16.CellJoin", spec := "cellJoin", unfollowed := true, recurses := true, apart := false }
def CellJoinSaid : Prop := cellJoinRow.holds Try.pinned (OpenSpec.ofChange cellJoinSpec)

/-- ITS FALSE NEIGHBOUR: 'it returns false'. Refute it at one input. -/
def cellJoinWrong : ChangeSpec := { name := "cellJoin", fn := fun _ => fun
  | [d] => { results := [.lit (.bool false)], args := [d] }
  | _ => none }
def CellJoinWrongFalsely : Prop := cellJoinRow.holds Try.pinned (OpenSpec.ofChange cellJoinWrong)

/-- 'marginalialaw16.CellEncode': WHATEVER THE INPUT: true; the input reads as it did. -/
def cellEncodeSpec : ChangeSpec := { name := "cellEncode", fn := fun _ => fun
  | [d] => { results := [.lit (.bool true)], args := [d] }
  | _ => none }
def cellEncodeRow : OpenClaim := { program := "ytnmopjmlilekjaa", sum := "03e4d4cea6d42b89216e0bd3dafcaf540b7db5439ff80624b36203152fce3335", func := "marginalia/marginalialaw16.CellEncode", spec := "cellEncode", unfollowed := true, recurses := true, apart := false }
def CellEncodeSaid : Prop := cellEncodeRow.holds Try.pinned (OpenSpec.ofChange cellEncodeSpec)

/-- ITS FALSE NEIGHBOUR: 'it returns false'. Refute it at one input. -/
def cellEncodeWrong : ChangeSpec := { name := "cellEncode", fn := fun _ => fun
  | [d] => { results := [.lit (.bool false)], args := [d] }
  | _ => none }
def CellEncodeWrongFalsely : Prop := cellEncodeRow.holds Try.pinned (OpenSpec.ofChange cellEncodeWrong)

/-- 'marginalialaw16.CellOnly': WHATEVER THE INPUT: true; the input reads as it did. -/
def cellOnlySpec : ChangeSpec := { name := "cellOnly", fn := fun _ => fun
  | [d1, d2, d3] => { results := [.lit (.bool true)], args := [d1, d2, d3] }
  | _ => none }
def cellOnlyRow : OpenClaim := { program := "ytnmopjmlilekjaa", sum := "03e4d4cea6d42b89216e0bd3dafcaf540b7db5439ff80624b36203152fce3335", func := "marginalia/marginalialaw16.CellOnly", spec := "cellOnly", unfollowed := true, recurses := true, apart := false }
def CellOnlySaid : Prop := cellOnlyRow.holds Try.pinned (OpenSpec.ofChange cellOnlySpec)

/-- ITS FALSE NEIGHBOUR: 'it returns false'. Refute it at one input. -/
def cellOnlyWrong : ChangeSpec := { name := "cellOnly", fn := fun _ => fun
  | [d1, d2, d3] => { results := [.lit (.bool false)], args := [d1, d2, d3] }
  | _ => none }
def CellOnlyWrongFalsely : Prop := cellOnlyRow.holds Try.pinned (OpenSpec.ofChange cellOnlyWrong)

/-- 'marginalialaw16.CellBack': WHATEVER THE INPUT: true; the input reads as it did. -/
def cellBackSpec : ChangeSpec := { name := "cellBack", fn := fun _ => fun
  | [d1, d2] => { results := [.lit (.bool true)], args := [d1, d2] }
  | _ => none }
def cellBackRow : OpenClaim := { program := "ytnmopjmlilekjaa", sum := "03e4d4cea6d42b89216e0bd3dafcaf540b7db5439ff80624b36203152fce3335", func := "marginalia/marginalialaw16.CellBack", spec := "cellBack", unfollowed := true, recurses := true, apart := false }
def CellBackSaid : Prop := cellBackRow.holds Try.pinned (OpenSpec.ofChange cellBackSpec)

/-- ITS FALSE NEIGHBOUR: 'it returns false'. Refute it at one input. -/
def cellBackWrong : ChangeSpec := { name := "cellBack", fn := fun _ => fun
  | [d1, d2] => { results := [.lit (.bool false)], args := [d1, d2] }
  | _ => none }
def CellBackWrongFalsely : Prop := cellBackRow.holds Try.pinned (OpenSpec.ofChange cellBackWrong)

/- THE SECOND FORM. 'bulk': how many values and letters a reading holds, each counted each time it is reached (what is shared counts as often as it is met; a slice's spare places count too). A statement '..UptoSaid' is the law's where the arguments, and the package variables that the reading takes, are together of bulk at most 1048576: NARROWER than '..Said'. Prove '..Said' where nothing that the law and all that it calls make is longer than what came in: it says more and counts as full. Else prove '..UptoSaid'. A law counts once. -/
mutual
def uptoBulk {H : Type} : DataW H → Nat
  | .lit (.string bytes) => bytes.length + 1
  | .lit _ => 1
  | .nil => 1
  | .ptr d => uptoBulk d + 1
  | .slice elems spare => uptoBulkAll elems + uptoBulkAll spare + 1
  | .agg parts => uptoBulkAll parts + 1
  | .iface _ d => uptoBulk d + 1
  | .map entries => uptoBulkEntries entries + 1
  | .held _ => 1
def uptoBulkAll {H : Type} : List (DataW H) → Nat
  | [] => 0
  | d :: r => uptoBulk d + uptoBulkAll r
def uptoBulkEntries {H : Type} : List (Lit × DataW H) → Nat
  | [] => 0
  | x :: r => uptoBulkEntry x + uptoBulkEntries r
def uptoBulkEntry {H : Type} : Lit × DataW H → Nat
  | (.string bytes, d) => bytes.length + uptoBulk d + 1
  | (_, d) => uptoBulk d + 1
 end
def uptoSmall : (H : Type) → List (DataW H) → Bool := fun _ ds => decide (uptoBulkAll ds ≤ 1048576)
def OpenSpec.upto (s : _root_.Go.ChangeSpec) : _root_.Go.OpenSpec := { _root_.Go.OpenSpec.ofChange s with cond := some uptoSmall }

/-- 'marginalialaw15.CrcSum', WHERE WHAT IT READS IS OF BULK AT MOST 1048576: true; the input reads as it did. -/
def crcSumUptoRow : OpenClaim := { program := "ytnmopjmlilekjaa", sum := "03e4d4cea6d42b89216e0bd3dafcaf540b7db5439ff80624b36203152fce3335", func := "marginalia/marginalialaw15.CrcSum", spec := "crcSum", apart := false, narrowed := true }
def CrcSumUptoSaid : Prop := crcSumUptoRow.holds Try.pinned (OpenSpec.upto crcSumSpec)

/-- 'marginalialaw15.CrcMore', WHERE WHAT IT READS IS OF BULK AT MOST 1048576: true; the input reads as it did. -/
def crcMoreUptoRow : OpenClaim := { program := "ytnmopjmlilekjaa", sum := "03e4d4cea6d42b89216e0bd3dafcaf540b7db5439ff80624b36203152fce3335", func := "marginalia/marginalialaw15.CrcMore", spec := "crcMore", apart := false, narrowed := true }
def CrcMoreUptoSaid : Prop := crcMoreUptoRow.holds Try.pinned (OpenSpec.upto crcMoreSpec)

/-- 'marginalialaw15.CrcPieces', WHERE WHAT IT READS IS OF BULK AT MOST 1048576: true; the input reads as it did. -/
def crcPiecesUptoRow : OpenClaim := { program := "ytnmopjmlilekjaa", sum := "03e4d4cea6d42b89216e0bd3dafcaf540b7db5439ff80624b36203152fce3335", func := "marginalia/marginalialaw15.CrcPieces", spec := "crcPieces", apart := false, narrowed := true }
def CrcPiecesUptoSaid : Prop := crcPiecesUptoRow.holds Try.pinned (OpenSpec.upto crcPiecesSpec)

/-- 'marginalialaw15.CrcOne', WHERE WHAT IT READS IS OF BULK AT MOST 1048576: true; the input reads as it did. -/
def crcOneUptoRow : OpenClaim := { program := "ytnmopjmlilekjaa", sum := "03e4d4cea6d42b89216e0bd3dafcaf540b7db5439ff80624b36203152fce3335", func := "marginalia/marginalialaw15.CrcOne", spec := "crcOne", apart := false, narrowed := true }
def CrcOneUptoSaid : Prop := crcOneUptoRow.holds Try.pinned (OpenSpec.upto crcOneSpec)

/-- 'marginalialaw15.CrcLinear', WHERE WHAT IT READS IS OF BULK AT MOST 1048576: true; the input reads as it did. -/
def crcLinearUptoRow : OpenClaim := { program := "ytnmopjmlilekjaa", sum := "03e4d4cea6d42b89216e0bd3dafcaf540b7db5439ff80624b36203152fce3335", func := "marginalia/marginalialaw15.CrcLinear", spec := "crcLinear", apart := false, narrowed := true }
def CrcLinearUptoSaid : Prop := crcLinearUptoRow.holds Try.pinned (OpenSpec.upto crcLinearSpec)

/-- 'marginalialaw16.CellDecode', WHERE WHAT IT READS IS OF BULK AT MOST 1048576: true; the input reads as it did. -/
def cellDecodeUptoRow : OpenClaim := { program := "ytnmopjmlilekjaa", sum := "03e4d4cea6d42b89216e0bd3dafcaf540b7db5439ff80624b36203152fce3335", func := "marginalia/marginalialaw16.CellDecode", spec := "cellDecode", unfollowed := true, recurses := true, apart := false, narrowed := true }
def CellDecodeUptoSaid : Prop := cellDecodeUptoRow.holds Try.pinned (OpenSpec.upto cellDecodeSpec)

/-- 'marginalialaw16.CellCut', WHERE WHAT IT READS IS OF BULK AT MOST 1048576: true; the input reads as it did. -/
def cellCutUptoRow : OpenClaim := { program := "ytnmopjmlilekjaa", sum := "03e4d4cea6d42b89216e0bd3dafcaf540b7db5439ff80624b36203152fce3335", func := "marginalia/marginalialaw16.CellCut", spec := "cellCut", unfollowed := true, recurses := true, apart := false, narrowed := true }
def CellCutUptoSaid : Prop := cellCutUptoRow.holds Try.pinned (OpenSpec.upto cellCutSpec)

/-- 'marginalialaw16.CellJoin', WHERE WHAT IT READS IS OF BULK AT MOST 1048576: true; the input reads as it did. -/
def cellJoinUptoRow : OpenClaim := { program := "ytnmopjmlilekjaa", sum := "03e4d4cea6d42b89216e0bd3dafcaf540b7db5439ff80624b36203152fce3335", func := "marginalia/marginalialaw16.CellJoin", spec := "cellJoin", unfollowed := true, recurses := true, apart := false, narrowed := true }
def CellJoinUptoSaid : Prop := cellJoinUptoRow.holds Try.pinned (OpenSpec.upto cellJoinSpec)

/-- 'marginalialaw16.CellEncode', WHERE WHAT IT READS IS OF BULK AT MOST 1048576: true; the input reads as it did. -/
def cellEncodeUptoRow : OpenClaim := { program := "ytnmopjmlilekjaa", sum := "03e4d4cea6d42b89216e0bd3dafcaf540b7db5439ff80624b36203152fce3335", func := "marginalia/marginalialaw16.CellEncode", spec := "cellEncode", unfollowed := true, recurses := true, apart := false, narrowed := true }
def CellEncodeUptoSaid : Prop := cellEncodeUptoRow.holds Try.pinned (OpenSpec.upto cellEncodeSpec)

/-- 'marginalialaw16.CellOnly', WHERE WHAT IT READS IS OF BULK AT MOST 1048576: true; the input reads as it did. -/
def cellOnlyUptoRow : OpenClaim := { program := "ytnmopjmlilekjaa", sum := "03e4d4cea6d42b89216e0bd3dafcaf540b7db5439ff80624b36203152fce3335", func := "marginalia/marginalialaw16.CellOnly", spec := "cellOnly", unfollowed := true, recurses := true, apart := false, narrowed := true }
def CellOnlyUptoSaid : Prop := cellOnlyUptoRow.holds Try.pinned (OpenSpec.upto cellOnlySpec)

/-- 'marginalialaw16.CellBack', WHERE WHAT IT READS IS OF BULK AT MOST 1048576: true; the input reads as it did. -/
def cellBackUptoRow : OpenClaim := { program := "ytnmopjmlilekjaa", sum := "03e4d4cea6d42b89216e0bd3dafcaf540b7db5439ff80624b36203152fce3335", func := "marginalia/marginalialaw16.CellBack", spec := "cellBack", unfollowed := true, recurses := true, apart := false, narrowed := true }
def CellBackUptoSaid : Prop := cellBackUptoRow.holds Try.pinned (OpenSpec.upto cellBackSpec)

end Rows
end Go.Proofs.Ytnmopjmlilekjaa
