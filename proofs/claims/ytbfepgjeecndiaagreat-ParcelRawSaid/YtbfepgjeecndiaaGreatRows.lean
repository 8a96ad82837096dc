/-
  No cell of these rows narrows 'for every input' (looked for: loops, veiled, ifaces, maps, wideKeys, modest, calm, conditions, laid).
  DERIVED. THE GIVEN ROWS OF THIS SEAT. 4 by the template 'for every input the law returns true; each argument reads behind the call as it read before'; 0 by the template 'total and deterministic' (their statements: YtbfepgjeecndiaaGreatTotals.lean).
  GIVEN WITH THE SEED: the statements are not yours to turn. If you find one false, say at which input.
  Laid BY PROGRAM, IN A SANDBOX (cutbox-rows.mjs): the forced cells as the released guide's own fill.sh prints them over the translation 281f2951c08536bd… (all of the seat's roots in one cut). By AI agents, Wed Nov 11 2026. No macro, syntax, notation, axiom, sorry.
-/
import Derived.Test.YtbfepgjeecndiaaGreatChecked
import GoSem.Claim
import GoSem.ClaimJoined
import GoSem.ClaimMapViews
import Derived.JoinedTies
import Derived.KernelRfl
namespace Go.Proofs.YtbfepgjeecndiaaGreat
/- THE CELL 'sum', in the pinned program and in every row, IS THE sha256 OF THE DUMP (.gsa) THAT YtbfepgjeecndiaaGreatProg.lean LOADS. Nothing in Lean hashes anything: it is a label: what it is worth is what the hold of that sum in a sandbox is worth. -/
noncomputable def Tryz.pinned : Pinned := { name := "ytbfepgjeecndiaagreat", sum := "281f2951c08536bde0193b5ac56bec0442fdedb7a516332c007613ae8781fdf6", checked := Tryz.checked }
namespace Rows
def none {H : Type} : Left H := { results := [], args := [] }

/-- 'forkledgerlaw37.ParcelEncode': WHATEVER THE INPUT: true; the input reads as it did. -/
def parcelEncodeSpec : ChangeSpec := { name := "parcelEncode", fn := fun _ => fun
  | [d] => { results := [.lit (.bool true)], args := [d] }
  | _ => none }
def parcelEncodeRow : OpenClaim := { program := "ytbfepgjeecndiaagreat", sum := "281f2951c08536bde0193b5ac56bec0442fdedb7a516332c007613ae8781fdf6", func := "forkledger/forkledgerlaw37.ParcelEncode", spec := "parcelEncode", inPlace := ["internal/bytealg.Compare"], unfollowed := true, recurses := true, plainKeys := false, apart := false }
def ParcelEncodeSaid : Prop := parcelEncodeRow.holds Tryz.pinned (OpenSpec.ofChange parcelEncodeSpec)

/-- ITS FALSE NEIGHBOUR: 'it returns false'. Refute it at one input. -/
def parcelEncodeWrong : ChangeSpec := { name := "parcelEncode", fn := fun _ => fun
  | [d] => { results := [.lit (.bool false)], args := [d] }
  | _ => none }
def ParcelEncodeWrongFalsely : Prop := parcelEncodeRow.holds Tryz.pinned (OpenSpec.ofChange parcelEncodeWrong)

/-- 'forkledgerlaw37.ParcelDecode': WHATEVER THE INPUT: true; the input reads as it did. -/
def parcelDecodeSpec : ChangeSpec := { name := "parcelDecode", fn := fun _ => fun
  | [d] => { results := [.lit (.bool true)], args := [d] }
  | _ => none }
def parcelDecodeRow : OpenClaim := { program := "ytbfepgjeecndiaagreat", sum := "281f2951c08536bde0193b5ac56bec0442fdedb7a516332c007613ae8781fdf6", func := "forkledger/forkledgerlaw37.ParcelDecode", spec := "parcelDecode", inPlace := ["internal/bytealg.Compare"], unfollowed := true, recurses := true, plainKeys := false, apart := false }
def ParcelDecodeSaid : Prop := parcelDecodeRow.holds Tryz.pinned (OpenSpec.ofChange parcelDecodeSpec)

/-- ITS FALSE NEIGHBOUR: 'it returns false'. Refute it at one input. -/
def parcelDecodeWrong : ChangeSpec := { name := "parcelDecode", fn := fun _ => fun
  | [d] => { results := [.lit (.bool false)], args := [d] }
  | _ => none }
def ParcelDecodeWrongFalsely : Prop := parcelDecodeRow.holds Tryz.pinned (OpenSpec.ofChange parcelDecodeWrong)

/-- 'forkledgerlaw37.ParcelSplit': WHATEVER THE INPUT: true; the input reads as it did. -/
def parcelSplitSpec : ChangeSpec := { name := "parcelSplit", fn := fun _ => fun
  | [d] => { results := [.lit (.bool true)], args := [d] }
  | _ => none }
def parcelSplitRow : OpenClaim := { program := "ytbfepgjeecndiaagreat", sum := "281f2951c08536bde0193b5ac56bec0442fdedb7a516332c007613ae8781fdf6", func := "forkledger/forkledgerlaw37.ParcelSplit", spec := "parcelSplit", inPlace := ["internal/bytealg.Compare"], unfollowed := true, recurses := true, plainKeys := false, apart := false }
def ParcelSplitSaid : Prop := parcelSplitRow.holds Tryz.pinned (OpenSpec.ofChange parcelSplitSpec)

/-- ITS FALSE NEIGHBOUR: 'it returns false'. Refute it at one input. -/
def parcelSplitWrong : ChangeSpec := { name := "parcelSplit", fn := fun _ => fun
  | [d] => { results := [.lit (.bool false)], args := [d] }
  | _ => none }
def ParcelSplitWrongFalsely : Prop := parcelSplitRow.holds Tryz.pinned (OpenSpec.ofChange parcelSplitWrong)

/-- 'forkledgerlaw37.ParcelRaw': WHATEVER THE INPUT: true; the input reads as it did. -/
def parcelRawSpec : ChangeSpec := { name := "parcelRaw", fn := fun _ => fun
  | [d] => { results := [.lit (.bool true)], args := [d] }
  | _ => none }
def parcelRawRow : OpenClaim := { program := "ytbfepgjeecndiaagreat", sum := "281f2951c08536bde0193b5ac56bec0442fdedb7a516332c007613ae8781fdf6", func := "forkledger/forkledgerlaw37.ParcelRaw", spec := "parcelRaw", inPlace := ["internal/bytealg.Compare"], unfollowed := true, recurses := true, plainKeys := false, apart := false }
def ParcelRawSaid : Prop := parcelRawRow.holds Tryz.pinned (OpenSpec.ofChange parcelRawSpec)

/-- ITS FALSE NEIGHBOUR: 'it returns false'. Refute it at one input. -/
def parcelRawWrong : ChangeSpec := { name := "parcelRaw", fn := fun _ => fun
  | [d] => { results := [.lit (.bool false)], args := [d] }
  | _ => none }
def ParcelRawWrongFalsely : Prop := parcelRawRow.holds Tryz.pinned (OpenSpec.ofChange parcelRawWrong)

/- THE SECOND FORM. 'bulk': how many values and letters a reading holds, each counted each time it is reached (what is shared counts as often as it is met; a slice's spare places count too). A statement '..UptoSaid' is the law's where the arguments, and the package variables that the reading takes, are together of bulk at most 1048576: NARROWER than '..Said'. Prove '..Said' where nothing that the law and all that it calls make is longer than what came in: it says more and counts as full. Else prove '..UptoSaid'. A law counts once. -/
mutual
def uptoBulk {H : Type} : DataW H → Nat
  | .lit (.string bytes) => bytes.length + 1
  | .lit _ => 1
  | .nil => 1
  | .ptr d => uptoBulk d + 1
  | .slice elems spare => uptoBulkAll elems + uptoBulkAll spare + 1
  | .agg parts => uptoBulkAll parts + 1
  | .iface _ d => uptoBulk d + 1
  | .map entries => uptoBulkEntries entries + 1
  | .held _ => 1
def uptoBulkAll {H : Type} : List (DataW H) → Nat
  | [] => 0
  | d :: r => uptoBulk d + uptoBulkAll r
def uptoBulkEntries {H : Type} : List (Lit × DataW H) → Nat
  | [] => 0
  | x :: r => uptoBulkEntry x + uptoBulkEntries r
def uptoBulkEntry {H : Type} : Lit × DataW H → Nat
  | (.string bytes, d) => bytes.length + uptoBulk d + 1
  | (_, d) => uptoBulk d + 1
 end
def uptoSmall : (H : Type) → List (DataW H) → Bool := fun _ ds => decide (uptoBulkAll ds ≤ 1048576)
def OpenSpec.upto (s : _root_.Go.ChangeSpec) : _root_.Go.OpenSpec := { _root_.Go.OpenSpec.ofChange s with cond := some uptoSmall }

/-- 'forkledgerlaw37.ParcelEncode', WHERE WHAT IT READS IS OF BULK AT MOST 1048576: true; the input reads as it did. -/
def parcelEncodeUptoRow : OpenClaim := { program := "ytbfepgjeecndiaagreat", sum := "281f2951c08536bde0193b5ac56bec0442fdedb7a516332c007613ae8781fdf6", func := "forkledger/forkledgerlaw37.ParcelEncode", spec := "parcelEncode", inPlace := ["internal/bytealg.Compare"], unfollowed := true, recurses := true, plainKeys := false, apart := false, narrowed := true }
def ParcelEncodeUptoSaid : Prop := parcelEncodeUptoRow.holds Tryz.pinned (OpenSpec.upto parcelEncodeSpec)

/-- 'forkledgerlaw37.ParcelDecode', WHERE WHAT IT READS IS OF BULK AT MOST 1048576: true; the input reads as it did. -/
def parcelDecodeUptoRow : OpenClaim := { program := "ytbfepgjeecndiaagreat", sum := "281f2951c08536bde0193b5ac56bec0442fdedb7a516332c007613ae8781fdf6", func := "forkledger/forkledgerlaw37.ParcelDecode", spec := "parcelDecode", inPlace := ["internal/bytealg.Compare"], unfollowed := true, recurses := true, plainKeys := false, apart := false, narrowed := true }
def ParcelDecodeUptoSaid : Prop := parcelDecodeUptoRow.holds Tryz.pinned (OpenSpec.upto parcelDecodeSpec)

/-- 'forkledgerlaw37.ParcelSplit', WHERE WHAT IT READS IS OF BULK AT MOST 1048576: true; the input reads as it did. -/
def parcelSplitUptoRow : OpenClaim := { program := "ytbfepgjeecndiaagreat", sum := "281f2951c08536bde0193b5ac56bec0442fdedb7a516332c007613ae8781fdf6", func := "forkledger/forkledgerlaw37.ParcelSplit", spec := "parcelSplit", inPlace := ["internal/bytealg.Compare"], unfollowed := true, recurses := true, plainKeys := false, apart := false, narrowed := true }
def ParcelSplitUptoSaid : Prop := parcelSplitUptoRow.holds Tryz.pinned (OpenSpec.upto parcelSplitSpec)

/-- 'forkledgerlaw37.ParcelRaw', WHERE WHAT IT READS IS OF BULK AT MOST 1048576: true; the input reads as it did. -/
def parcelRawUptoRow : OpenClaim := { program := "ytbfepgjeecndiaagreat", sum := "281f2951c08536bde0193b5ac56bec0442fdedb7a516332c007613ae8781fdf6", func := "forkledger/forkledgerlaw37.ParcelRaw", spec := "parcelRaw", inPlace := ["internal/bytealg.Compare"], unfollowed := true, recurses := true, plainKeys := false, apart := false, narrowed := true }
def ParcelRawUptoSaid : Prop := parcelRawUptoRow.holds Tryz.pinned (OpenSpec.upto parcelRawSpec)

end Rows
end Go.Proofs.YtbfepgjeecndiaaGreat
