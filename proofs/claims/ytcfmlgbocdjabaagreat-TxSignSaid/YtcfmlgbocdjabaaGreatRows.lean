/-
  No cell of these rows narrows 'for every input' (looked for: loops, veiled, ifaces, maps, wideKeys, modest, calm, conditions, laid).
  DERIVED. THE GIVEN ROWS OF THIS SEAT. 3 by the template 'for every input the law returns true; each argument reads behind the call as it read before'; 0 by the template 'total and deterministic' (their statements: YtcfmlgbocdjabaaGreatTotals.lean).
  GIVEN WITH THE SEED: the statements are not yours to turn. If you find one false, say at which input.
  Laid BY PROGRAM, IN A SANDBOX (cutbox-rows.mjs): the forced cells as the released guide's own fill.sh prints them over the translation 9dd5950c714f1b5f… (all of the seat's roots in one cut). By AI agents, Wed Nov 11 2026. No macro, syntax, notation, axiom, sorry.
-/
import Derived.Test.YtcfmlgbocdjabaaGreatChecked
import GoSem.Claim
import GoSem.ClaimJoined
import GoSem.ClaimMapViews
import Derived.JoinedTies
import Derived.KernelRfl
namespace Go.Proofs.YtcfmlgbocdjabaaGreat
/- THE CELL 'sum', in the pinned program and in every row, IS THE sha256 OF THE DUMP (.gsa) THAT YtcfmlgbocdjabaaGreatProg.lean LOADS. Nothing in Lean hashes anything: it is a label: what it is worth is what the hold of that sum in a sandbox is worth. -/
noncomputable def Tryz.pinned : Pinned := { name := "ytcfmlgbocdjabaagreat", sum := "9dd5950c714f1b5f55e8f07e86b1257df1b114525e3e0942406d773a44e9ef07", checked := Tryz.checked }
namespace Rows
def none {H : Type} : Left H := { results := [], args := [] }

/-- 'forkledgerlaw20.TxSign': WHATEVER THE INPUT: true; the input reads as it did. -/
def txSignSpec : ChangeSpec := { name := "txSign", fn := fun _ => fun
  | [d1, d2] => { results := [.lit (.bool true)], args := [d1, d2] }
  | _ => none }
def txSignRow : OpenClaim := { program := "ytcfmlgbocdjabaagreat", sum := "9dd5950c714f1b5f55e8f07e86b1257df1b114525e3e0942406d773a44e9ef07", func := "forkledger/forkledgerlaw20.TxSign", spec := "txSign", unfollowed := true, recurses := true, plainKeys := false, apart := false }
def TxSignSaid : Prop := txSignRow.holds Tryz.pinned (OpenSpec.ofChange txSignSpec)

/-- ITS FALSE NEIGHBOUR: 'it returns false'. Refute it at one input. -/
def txSignWrong : ChangeSpec := { name := "txSign", fn := fun _ => fun
  | [d1, d2] => { results := [.lit (.bool false)], args := [d1, d2] }
  | _ => none }
def TxSignWrongFalsely : Prop := txSignRow.holds Tryz.pinned (OpenSpec.ofChange txSignWrong)

/-- 'forkledgerlaw20.TxVerify': WHATEVER THE INPUT: true; the input reads as it did. -/
def txVerifySpec : ChangeSpec := { name := "txVerify", fn := fun _ => fun
  | [d1, d2] => { results := [.lit (.bool true)], args := [d1, d2] }
  | _ => none }
def txVerifyRow : OpenClaim := { program := "ytcfmlgbocdjabaagreat", sum := "9dd5950c714f1b5f55e8f07e86b1257df1b114525e3e0942406d773a44e9ef07", func := "forkledger/forkledgerlaw20.TxVerify", spec := "txVerify", unfollowed := true, recurses := true, plainKeys := false, apart := false }
def TxVerifySaid : Prop := txVerifyRow.holds Tryz.pinned (OpenSpec.ofChange txVerifySpec)

/-- ITS FALSE NEIGHBOUR: 'it returns false'. Refute it at one input. -/
def txVerifyWrong : ChangeSpec := { name := "txVerify", fn := fun _ => fun
  | [d1, d2] => { results := [.lit (.bool false)], args := [d1, d2] }
  | _ => none }
def TxVerifyWrongFalsely : Prop := txVerifyRow.holds Tryz.pinned (OpenSpec.ofChange txVerifyWrong)

/-- 'forkledgerlaw37.ParcelEncode': WHATEVER THE INPUT: true; the input reads as it did. -/
def parcelEncodeSpec : ChangeSpec := { name := "parcelEncode", fn := fun _ => fun
  | [d] => { results := [.lit (.bool true)], args := [d] }
  | _ => none }
def parcelEncodeRow : OpenClaim := { program := "ytcfmlgbocdjabaagreat", sum := "9dd5950c714f1b5f55e8f07e86b1257df1b114525e3e0942406d773a44e9ef07", func := "forkledger/forkledgerlaw37.ParcelEncode", spec := "parcelEncode", inPlace := ["internal/bytealg.Compare"], unfollowed := true, recurses := true, plainKeys := false, apart := false }
def ParcelEncodeSaid : Prop := parcelEncodeRow.holds Tryz.pinned (OpenSpec.ofChange parcelEncodeSpec)

/-- ITS FALSE NEIGHBOUR: 'it returns false'. Refute it at one input. -/
def parcelEncodeWrong : ChangeSpec := { name := "parcelEncode", fn := fun _ => fun
  | [d] => { results := [.lit (.bool false)], args := [d] }
  | _ => none }
def ParcelEncodeWrongFalsely : Prop := parcelEncodeRow.holds Tryz.pinned (OpenSpec.ofChange parcelEncodeWrong)

/- THE SECOND FORM. 'bulk': how many values and letters a reading holds, each counted each time it is reached (what is shared counts as often as it is met; a slice's spare places count too). A statement '..UptoSaid' is the law's where the arguments, and the package variables that the reading takes, are together of bulk at most 1048576: NARROWER than '..Said'. Prove '..Said' where nothing that the law and all that it calls make is longer than what came in: it says more and counts as full. Else prove '..UptoSaid'. A law counts once. -/
mutual
def uptoBulk {H : Type} : DataW H → Nat
  | .lit (.string bytes) => bytes.length + 1
  | .lit _ => 1
  | .nil => 1
  | .ptr d => uptoBulk d + 1
  | .slice elems spare => uptoBulkAll elems + uptoBulkAll spare + 1
  | .agg parts => uptoBulkAll parts + 1
  | .iface _ d => uptoBulk d + 1
  | .map entries => uptoBulkEntries entries + 1
  | .held _ => 1
def uptoBulkAll {H : Type} : List (DataW H) → Nat
  | [] => 0
  | d :: r => uptoBulk d + uptoBulkAll r
def uptoBulkEntries {H : Type} : List (Lit × DataW H) → Nat
  | [] => 0
  | x :: r => uptoBulkEntry x + uptoBulkEntries r
def uptoBulkEntry {H : Type} : Lit × DataW H → Nat
  | (.string bytes, d) => bytes.length + uptoBulk d + 1
  | (_, d) => uptoBulk d + 1
 end
def uptoSmall : (H : Type) → List (DataW H) → Bool := fun _ ds => decide (uptoBulkAll ds ≤ 1048576)
def OpenSpec.upto (s : _root_.Go.ChangeSpec) : _root_.Go.OpenSpec := { _root_.Go.OpenSpec.ofChange s with cond := some uptoSmall }

/-- 'forkledgerlaw20.TxSign', WHERE WHAT IT READS IS OF BULK AT MOST 1048576: true; the input reads as it did. -/
def txSignUptoRow : OpenClaim := { program := "ytcfmlgbocdjabaagreat", sum := "9dd5950c714f1b5f55e8f07e86b1257df1b114525e3e0942406d773a44e9ef07", func := "forkledger/forkledgerlaw20.TxSign", spec := "txSign", unfollowed := true, recurses := true, plainKeys := false, apart := false, narrowed := true }
def TxSignUptoSaid : Prop := txSignUptoRow.holds Tryz.pinned (OpenSpec.upto txSignSpec)

/-- 'forkledgerlaw20.TxVerify', WHERE WHAT IT READS IS OF BULK AT MOST 1048576: true; the input reads as it did. -/
def txVerifyUptoRow : OpenClaim := { program := "ytcfmlgbocdjabaagreat", sum := "9dd5950c714f1b5f55e8f07e86b1257df1b114525e3e0942406d773a44e9ef07", func := "forkledger/forkledgerlaw20.TxVerify", spec := "txVerify", unfollowed := true, recurses := true, plainKeys := false, apart := false, narrowed := true }
def TxVerifyUptoSaid : Prop := txVerifyUptoRow.holds Tryz.pinned (OpenSpec.upto txVerifySpec)

/-- 'forkledgerlaw37.ParcelEncode', WHERE WHAT IT READS IS OF BULK AT MOST 1048576: true; the input reads as it did. -/
def parcelEncodeUptoRow : OpenClaim := { program := "ytcfmlgbocdjabaagreat", sum := "9dd5950c714f1b5f55e8f07e86b1257df1b114525e3e0942406d773a44e9ef07", func := "forkledger/forkledgerlaw37.ParcelEncode", spec := "parcelEncode", inPlace := ["internal/bytealg.Compare"], unfollowed := true, recurses := true, plainKeys := false, apart := false, narrowed := true }
def ParcelEncodeUptoSaid : Prop := parcelEncodeUptoRow.holds Tryz.pinned (OpenSpec.upto parcelEncodeSpec)

end Rows
end Go.Proofs.YtcfmlgbocdjabaaGreat
