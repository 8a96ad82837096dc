/-
  No cell of these rows narrows 'for every input' (looked for: loops, veiled, ifaces, maps, wideKeys, modest, calm, conditions, laid).
  DERIVED. THE GIVEN ROWS OF THIS SEAT. 9 by the template 'for every input the law returns true; each argument reads behind the call as it read before'; 0 by the template 'total and deterministic' (their statements: YtcfmlgbocdjabaaTotals.lean).
  GIVEN WITH THE SEED: the statements are not yours to turn. If you find one false, say at which input.
  Laid BY PROGRAM, IN A SANDBOX (cutbox-rows.mjs): the forced cells as the released guide's own fill.sh prints them over the translation 1c315c2b6553c804… (all of the seat's roots in one cut). By AI agents, Wed Nov 11 2026. No macro, syntax, notation, axiom, sorry.
-/
import Derived.Test.YtcfmlgbocdjabaaChecked
import GoSem.Claim
import GoSem.ClaimJoined
import GoSem.ClaimMapViews
import Derived.JoinedTies
import Derived.KernelRfl
namespace Go.Proofs.Ytcfmlgbocdjabaa
/- THE CELL 'sum', in the pinned program and in every row, IS THE sha256 OF THE DUMP (.gsa) THAT YtcfmlgbocdjabaaProg.lean LOADS. Nothing in Lean hashes anything: it is a label: what it is worth is what the hold of that sum in a sandbox is worth. -/
noncomputable def Try.pinned : Pinned := { name := "ytcfmlgbocdjabaa", sum := "1c315c2b6553c804b4a01e30d7b519dc367c706247700b53c32a588a6f1592b7", checked := Try.checked }
namespace Rows
def none {H : Type} : Left H := { results := [], args := [] }

/-- 'forkledgerlaw24.BlockBlock': WHATEVER THE INPUT: true; the input reads as it did. -/
def blockBlockSpec : ChangeSpec := { name := "blockBlock", fn := fun _ => fun
  | [d] => { results := [.lit (.bool true)], args := [d] }
  | _ => none }
def blockBlockRow : OpenClaim := { program := "ytcfmlgbocdjabaa", sum := "1c315c2b6553c804b4a01e30d7b519dc367c706247700b53c32a588a6f1592b7", func := "forkledger/forkledgerlaw24.BlockBlock", spec := "blockBlock", unfollowed := true, recurses := true, plainKeys := false, apart := false }
def BlockBlockSaid : Prop := blockBlockRow.holds Try.pinned (OpenSpec.ofChange blockBlockSpec)

/-- ITS FALSE NEIGHBOUR: 'it returns false'. Refute it at one input. -/
def blockBlockWrong : ChangeSpec := { name := "blockBlock", fn := fun _ => fun
  | [d] => { results := [.lit (.bool false)], args := [d] }
  | _ => none }
def BlockBlockWrongFalsely : Prop := blockBlockRow.holds Try.pinned (OpenSpec.ofChange blockBlockWrong)

/-- 'forkledgerlaw24.BlockGenesis': WHATEVER THE INPUT: true; the input reads as it did. -/
def blockGenesisSpec : ChangeSpec := { name := "blockGenesis", fn := fun _ => fun
  | [d] => { results := [.lit (.bool true)], args := [d] }
  | _ => none }
def blockGenesisRow : OpenClaim := { program := "ytcfmlgbocdjabaa", sum := "1c315c2b6553c804b4a01e30d7b519dc367c706247700b53c32a588a6f1592b7", func := "forkledger/forkledgerlaw24.BlockGenesis", spec := "blockGenesis", unfollowed := true, recurses := true, plainKeys := false, apart := false }
def BlockGenesisSaid : Prop := blockGenesisRow.holds Try.pinned (OpenSpec.ofChange blockGenesisSpec)

/-- ITS FALSE NEIGHBOUR: 'it returns false'. Refute it at one input. -/
def blockGenesisWrong : ChangeSpec := { name := "blockGenesis", fn := fun _ => fun
  | [d] => { results := [.lit (.bool false)], args := [d] }
  | _ => none }
def BlockGenesisWrongFalsely : Prop := blockGenesisRow.holds Try.pinned (OpenSpec.ofChange blockGenesisWrong)

/-- 'forkledgerlaw20.TxEncode': WHATEVER THE INPUT: true; the input reads as it did. -/
def txEncodeSpec : ChangeSpec := { name := "txEncode", fn := fun _ => fun
  | [d] => { results := [.lit (.bool true)], args := [d] }
  | _ => none }
def txEncodeRow : OpenClaim := { program := "ytcfmlgbocdjabaa", sum := "1c315c2b6553c804b4a01e30d7b519dc367c706247700b53c32a588a6f1592b7", func := "forkledger/forkledgerlaw20.TxEncode", spec := "txEncode", unfollowed := true, recurses := true, plainKeys := false, apart := false }
def TxEncodeSaid : Prop := txEncodeRow.holds Try.pinned (OpenSpec.ofChange txEncodeSpec)

/-- ITS FALSE NEIGHBOUR: 'it returns false'. Refute it at one input. -/
def txEncodeWrong : ChangeSpec := { name := "txEncode", fn := fun _ => fun
  | [d] => { results := [.lit (.bool false)], args := [d] }
  | _ => none }
def TxEncodeWrongFalsely : Prop := txEncodeRow.holds Try.pinned (OpenSpec.ofChange txEncodeWrong)

/-- 'forkledgerlaw20.TxDecode': WHATEVER THE INPUT: true; the input reads as it did. -/
def txDecodeSpec : ChangeSpec := { name := "txDecode", fn := fun _ => fun
  | [d] => { results := [.lit (.bool true)], args := [d] }
  | _ => none }
def txDecodeRow : OpenClaim := { program := "ytcfmlgbocdjabaa", sum := "1c315c2b6553c804b4a01e30d7b519dc367c706247700b53c32a588a6f1592b7", func := "forkledger/forkledgerlaw20.TxDecode", spec := "txDecode", unfollowed := true, recurses := true, plainKeys := false, apart := false }
def TxDecodeSaid : Prop := txDecodeRow.holds Try.pinned (OpenSpec.ofChange txDecodeSpec)

/-- ITS FALSE NEIGHBOUR: 'it returns false'. Refute it at one input. -/
def txDecodeWrong : ChangeSpec := { name := "txDecode", fn := fun _ => fun
  | [d] => { results := [.lit (.bool false)], args := [d] }
  | _ => none }
def TxDecodeWrongFalsely : Prop := txDecodeRow.holds Try.pinned (OpenSpec.ofChange txDecodeWrong)

/-- 'forkledgerlaw20.TxTruncated': WHATEVER THE INPUT: true; the input reads as it did. -/
def txTruncatedSpec : ChangeSpec := { name := "txTruncated", fn := fun _ => fun
  | [d1, d2, d3] => { results := [.lit (.bool true)], args := [d1, d2, d3] }
  | _ => none }
def txTruncatedRow : OpenClaim := { program := "ytcfmlgbocdjabaa", sum := "1c315c2b6553c804b4a01e30d7b519dc367c706247700b53c32a588a6f1592b7", func := "forkledger/forkledgerlaw20.TxTruncated", spec := "txTruncated", unfollowed := true, recurses := true, plainKeys := false, apart := false }
def TxTruncatedSaid : Prop := txTruncatedRow.holds Try.pinned (OpenSpec.ofChange txTruncatedSpec)

/-- ITS FALSE NEIGHBOUR: 'it returns false'. Refute it at one input. -/
def txTruncatedWrong : ChangeSpec := { name := "txTruncated", fn := fun _ => fun
  | [d1, d2, d3] => { results := [.lit (.bool false)], args := [d1, d2, d3] }
  | _ => none }
def TxTruncatedWrongFalsely : Prop := txTruncatedRow.holds Try.pinned (OpenSpec.ofChange txTruncatedWrong)

/-- 'forkledgerlaw20.TxEqual': WHATEVER THE INPUT: true; the input reads as it did. -/
def txEqualSpec : ChangeSpec := { name := "txEqual", fn := fun _ => fun
  | [d1, d2] => { results := [.lit (.bool true)], args := [d1, d2] }
  | _ => none }
def txEqualRow : OpenClaim := { program := "ytcfmlgbocdjabaa", sum := "1c315c2b6553c804b4a01e30d7b519dc367c706247700b53c32a588a6f1592b7", func := "forkledger/forkledgerlaw20.TxEqual", spec := "txEqual", unfollowed := true, recurses := true, plainKeys := false, apart := false }
def TxEqualSaid : Prop := txEqualRow.holds Try.pinned (OpenSpec.ofChange txEqualSpec)

/-- ITS FALSE NEIGHBOUR: 'it returns false'. Refute it at one input. -/
def txEqualWrong : ChangeSpec := { name := "txEqual", fn := fun _ => fun
  | [d1, d2] => { results := [.lit (.bool false)], args := [d1, d2] }
  | _ => none }
def TxEqualWrongFalsely : Prop := txEqualRow.holds Try.pinned (OpenSpec.ofChange txEqualWrong)

/-- 'forkledgerlaw20.TxValidate': WHATEVER THE INPUT: true; the input reads as it did. -/
def txValidateSpec : ChangeSpec := { name := "txValidate", fn := fun _ => fun
  | [d1, d2] => { results := [.lit (.bool true)], args := [d1, d2] }
  | _ => none }
def txValidateRow : OpenClaim := { program := "ytcfmlgbocdjabaa", sum := "1c315c2b6553c804b4a01e30d7b519dc367c706247700b53c32a588a6f1592b7", func := "forkledger/forkledgerlaw20.TxValidate", spec := "txValidate", unfollowed := true, recurses := true, plainKeys := false, apart := false }
def TxValidateSaid : Prop := txValidateRow.holds Try.pinned (OpenSpec.ofChange txValidateSpec)

/-- ITS FALSE NEIGHBOUR: 'it returns false'. Refute it at one input. -/
def txValidateWrong : ChangeSpec := { name := "txValidate", fn := fun _ => fun
  | [d1, d2] => { results := [.lit (.bool false)], args := [d1, d2] }
  | _ => none }
def TxValidateWrongFalsely : Prop := txValidateRow.holds Try.pinned (OpenSpec.ofChange txValidateWrong)

/-- 'forkledgerlaw41.ScriptConfigs': WHATEVER THE INPUT: true; the input reads as it did. -/
def scriptConfigsSpec : ChangeSpec := { name := "scriptConfigs", fn := fun _ => fun
  | [d1, d2] => { results := [.lit (.bool true)], args := [d1, d2] }
  | _ => none }
def scriptConfigsRow : OpenClaim := { program := "ytcfmlgbocdjabaa", sum := "1c315c2b6553c804b4a01e30d7b519dc367c706247700b53c32a588a6f1592b7", func := "forkledger/forkledgerlaw41.ScriptConfigs", spec := "scriptConfigs", inPlace := ["internal/bytealg.Compare"], unfollowed := true, recurses := true, plainKeys := false, apart := false }
def ScriptConfigsSaid : Prop := scriptConfigsRow.holds Try.pinned (OpenSpec.ofChange scriptConfigsSpec)

/-- ITS FALSE NEIGHBOUR: 'it returns false'. Refute it at one input. -/
def scriptConfigsWrong : ChangeSpec := { name := "scriptConfigs", fn := fun _ => fun
  | [d1, d2] => { results := [.lit (.bool false)], args := [d1, d2] }
  | _ => none }
def ScriptConfigsWrongFalsely : Prop := scriptConfigsRow.holds Try.pinned (OpenSpec.ofChange scriptConfigsWrong)

/-- 'forkledgerlaw41.ScriptEqual': WHATEVER THE INPUT: true; the input reads as it did. -/
def scriptEqualSpec : ChangeSpec := { name := "scriptEqual", fn := fun _ => fun
  | [d1, d2] => { results := [.lit (.bool true)], args := [d1, d2] }
  | _ => none }
def scriptEqualRow : OpenClaim := { program := "ytcfmlgbocdjabaa", sum := "1c315c2b6553c804b4a01e30d7b519dc367c706247700b53c32a588a6f1592b7", func := "forkledger/forkledgerlaw41.ScriptEqual", spec := "scriptEqual", inPlace := ["internal/bytealg.Compare"], unfollowed := true, recurses := true, plainKeys := false, apart := false }
def ScriptEqualSaid : Prop := scriptEqualRow.holds Try.pinned (OpenSpec.ofChange scriptEqualSpec)

/-- ITS FALSE NEIGHBOUR: 'it returns false'. Refute it at one input. -/
def scriptEqualWrong : ChangeSpec := { name := "scriptEqual", fn := fun _ => fun
  | [d1, d2] => { results := [.lit (.bool false)], args := [d1, d2] }
  | _ => none }
def ScriptEqualWrongFalsely : Prop := scriptEqualRow.holds Try.pinned (OpenSpec.ofChange scriptEqualWrong)

/- THE SECOND FORM. 'bulk': how many values and letters a reading holds, each counted each time it is reached (what is shared counts as often as it is met; a slice's spare places count too). A statement '..UptoSaid' is the law's where the arguments, and the package variables that the reading takes, are together of bulk at most 1048576: NARROWER than '..Said'. Prove '..Said' where nothing that the law and all that it calls make is longer than what came in: it says more and counts as full. Else prove '..UptoSaid'. A law counts once. -/
mutual
def uptoBulk {H : Type} : DataW H → Nat
  | .lit (.string bytes) => bytes.length + 1
  | .lit _ => 1
  | .nil => 1
  | .ptr d => uptoBulk d + 1
  | .slice elems spare => uptoBulkAll elems + uptoBulkAll spare + 1
  | .agg parts => uptoBulkAll parts + 1
  | .iface _ d => uptoBulk d + 1
  | .map entries => uptoBulkEntries entries + 1
  | .held _ => 1
def uptoBulkAll {H : Type} : List (DataW H) → Nat
  | [] => 0
  | d :: r => uptoBulk d + uptoBulkAll r
def uptoBulkEntries {H : Type} : List (Lit × DataW H) → Nat
  | [] => 0
  | x :: r => uptoBulkEntry x + uptoBulkEntries r
def uptoBulkEntry {H : Type} : Lit × DataW H → Nat
  | (.string bytes, d) => bytes.length + uptoBulk d + 1
  | (_, d) => uptoBulk d + 1
 end
def uptoSmall : (H : Type) → List (DataW H) → Bool := fun _ ds => decide (uptoBulkAll ds ≤ 1048576)
def OpenSpec.upto (s : _root_.Go.ChangeSpec) : _root_.Go.OpenSpec := { _root_.Go.OpenSpec.ofChange s with cond := some uptoSmall }

/-- 'forkledgerlaw24.BlockBlock', WHERE WHAT IT READS IS OF BULK AT MOST 1048576: true; the input reads as it did. -/
def blockBlockUptoRow : OpenClaim := { program := "ytcfmlgbocdjabaa", sum := "1c315c2b6553c804b4a01e30d7b519dc367c706247700b53c32a588a6f1592b7", func := "forkledger/forkledgerlaw24.BlockBlock", spec := "blockBlock", unfollowed := true, recurses := true, plainKeys := false, apart := false, narrowed := true }
def BlockBlockUptoSaid : Prop := blockBlockUptoRow.holds Try.pinned (OpenSpec.upto blockBlockSpec)

/-- 'forkledgerlaw24.BlockGenesis', WHERE WHAT IT READS IS OF BULK AT MOST 1048576: true; the input reads as it did. -/
def blockGenesisUptoRow : OpenClaim := { program := "ytcfmlgbocdjabaa", sum := "1c315c2b6553c804b4a01e30d7b519dc367c706247700b53c32a588a6f1592b7", func := "forkledger/forkledgerlaw24.BlockGenesis", spec := "blockGenesis", unfollowed := true, recurses := true, plainKeys := false, apart := false, narrowed := true }
def BlockGenesisUptoSaid : Prop := blockGenesisUptoRow.holds Try.pinned (OpenSpec.upto blockGenesisSpec)

/-- 'forkledgerlaw20.TxEncode', WHERE WHAT IT READS IS OF BULK AT MOST 1048576: true; the input reads as it did. -/
def txEncodeUptoRow : OpenClaim := { program := "ytcfmlgbocdjabaa", sum := "1c315c2b6553c804b4a01e30d7b519dc367c706247700b53c32a588a6f1592b7", func := "forkledger/forkledgerlaw20.TxEncode", spec := "txEncode", unfollowed := true, recurses := true, plainKeys := false, apart := false, narrowed := true }
def TxEncodeUptoSaid : Prop := txEncodeUptoRow.holds Try.pinned (OpenSpec.upto txEncodeSpec)

/-- 'forkledgerlaw20.TxDecode', WHERE WHAT IT READS IS OF BULK AT MOST 1048576: true; the input reads as it did. -/
def txDecodeUptoRow : OpenClaim := { program := "ytcfmlgbocdjabaa", sum := "1c315c2b6553c804b4a01e30d7b519dc367c706247700b53c32a588a6f1592b7", func := "forkledger/forkledgerlaw20.TxDecode", spec := "txDecode", unfollowed := true, recurses := true, plainKeys := false, apart := false, narrowed := true }
def TxDecodeUptoSaid : Prop := txDecodeUptoRow.holds Try.pinned (OpenSpec.upto txDecodeSpec)

/-- 'forkledgerlaw20.TxTruncated', WHERE WHAT IT READS IS OF BULK AT MOST 1048576: true; the input reads as it did. -/
def txTruncatedUptoRow : OpenClaim := { program := "ytcfmlgbocdjabaa", sum := "1c315c2b6553c804b4a01e30d7b519dc367c706247700b53c32a588a6f1592b7", func := "forkledger/forkledgerlaw20.TxTruncated", spec := "txTruncated", unfollowed := true, recurses := true, plainKeys := false, apart := false, narrowed := true }
def TxTruncatedUptoSaid : Prop := txTruncatedUptoRow.holds Try.pinned (OpenSpec.upto txTruncatedSpec)

/-- 'forkledgerlaw20.TxEqual', WHERE WHAT IT READS IS OF BULK AT MOST 1048576: true; the input reads as it did. -/
def txEqualUptoRow : OpenClaim := { program := "ytcfmlgbocdjabaa", sum := "1c315c2b6553c804b4a01e30d7b519dc367c706247700b53c32a588a6f1592b7", func := "forkledger/forkledgerlaw20.TxEqual", spec := "txEqual", unfollowed := true, recurses := true, plainKeys := false, apart := false, narrowed := true }
def TxEqualUptoSaid : Prop := txEqualUptoRow.holds Try.pinned (OpenSpec.upto txEqualSpec)

/-- 'forkledgerlaw20.TxValidate', WHERE WHAT IT READS IS OF BULK AT MOST 1048576: true; the input reads as it did. -/
def txValidateUptoRow : OpenClaim := { program := "ytcfmlgbocdjabaa", sum := "1c315c2b6553c804b4a01e30d7b519dc367c706247700b53c32a588a6f1592b7", func := "forkledger/forkledgerlaw20.TxValidate", spec := "txValidate", unfollowed := true, recurses := true, plainKeys := false, apart := false, narrowed := true }
def TxValidateUptoSaid : Prop := txValidateUptoRow.holds Try.pinned (OpenSpec.upto txValidateSpec)

/-- 'forkledgerlaw41.ScriptConfigs', WHERE WHAT IT READS IS OF BULK AT MOST 1048576: true; the input reads as it did. -/
def scriptConfigsUptoRow : OpenClaim := { program := "ytcfmlgbocdjabaa", sum := "1c315c2b6553c804b4a01e30d7b519dc367c706247700b53c32a588a6f1592b7", func := "forkledger/forkledgerlaw41.ScriptConfigs", spec := "scriptConfigs", inPlace := ["internal/bytealg.Compare"], unfollowed := true, recurses := true, plainKeys := false, apart := false, narrowed := true }
def ScriptConfigsUptoSaid : Prop := scriptConfigsUptoRow.holds Try.pinned (OpenSpec.upto scriptConfigsSpec)

/-- 'forkledgerlaw41.ScriptEqual', WHERE WHAT IT READS IS OF BULK AT MOST 1048576: true; the input reads as it did. -/
def scriptEqualUptoRow : OpenClaim := { program := "ytcfmlgbocdjabaa", sum := "1c315c2b6553c804b4a01e30d7b519dc367c706247700b53c32a588a6f1592b7", func := "forkledger/forkledgerlaw41.ScriptEqual", spec := "scriptEqual", inPlace := ["internal/bytealg.Compare"], unfollowed := true, recurses := true, plainKeys := false, apart := false, narrowed := true }
def ScriptEqualUptoSaid : Prop := scriptEqualUptoRow.holds Try.pinned (OpenSpec.upto scriptEqualSpec)

end Rows
end Go.Proofs.Ytcfmlgbocdjabaa
