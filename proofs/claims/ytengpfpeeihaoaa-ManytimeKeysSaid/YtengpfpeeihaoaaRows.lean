/-
  No cell of these rows narrows 'for every input' (looked for: loops, veiled, ifaces, maps, wideKeys, modest, calm, conditions, laid).
  DERIVED. THE GIVEN ROWS OF THIS SEAT. 9 by the template 'for every input the law returns true; each argument reads behind the call as it read before'; 0 by the template 'total and deterministic' (their statements: YtengpfpeeihaoaaTotals.lean).
  GIVEN WITH THE SEED: the statements are not yours to turn. If you find one false, say at which input.
  Laid BY PROGRAM, IN A SANDBOX (cutbox-rows.mjs): the forced cells as the released guide's own fill.sh prints them over the translation dfc19d1d5c315650… (all of the seat's roots in one cut). By AI agents, Wed Nov 11 2026. No macro, syntax, notation, axiom, sorry.
-/
import Derived.Test.YtengpfpeeihaoaaChecked
import GoSem.Claim
import GoSem.ClaimJoined
import GoSem.ClaimMapViews
import Derived.JoinedTies
import Derived.KernelRfl
namespace Go.Proofs.Ytengpfpeeihaoaa
/- THE CELL 'sum', in the pinned program and in every row, IS THE sha256 OF THE DUMP (.gsa) THAT YtengpfpeeihaoaaProg.lean LOADS. Nothing in Lean hashes anything: it is a label: what it is worth is what the hold of that sum in a sandbox is worth. -/
noncomputable def Try.pinned : Pinned := { name := "ytengpfpeeihaoaa", sum := "dfc19d1d5c31565084a9b6150f526d0faebbf7d60fbd32b50ede8d5e8a6dd4d8", checked := Try.checked }
namespace Rows
def none {H : Type} : Left H := { results := [], args := [] }

/-- 'forkledgerlaw5.ManytimeSizes': WHATEVER THE INPUT: true; the input reads as it did. -/
def manytimeSizesSpec : ChangeSpec := { name := "manytimeSizes", fn := fun _ => fun
  | [d1, d2] => { results := [.lit (.bool true)], args := [d1, d2] }
  | _ => none }
def manytimeSizesRow : OpenClaim := { program := "ytengpfpeeihaoaa", sum := "dfc19d1d5c31565084a9b6150f526d0faebbf7d60fbd32b50ede8d5e8a6dd4d8", func := "forkledger/forkledgerlaw5.ManytimeSizes", spec := "manytimeSizes", plainKeys := false, apart := false }
def ManytimeSizesSaid : Prop := manytimeSizesRow.holds Try.pinned (OpenSpec.ofChange manytimeSizesSpec)

/-- ITS FALSE NEIGHBOUR: 'it returns false'. Refute it at one input. -/
def manytimeSizesWrong : ChangeSpec := { name := "manytimeSizes", fn := fun _ => fun
  | [d1, d2] => { results := [.lit (.bool false)], args := [d1, d2] }
  | _ => none }
def ManytimeSizesWrongFalsely : Prop := manytimeSizesRow.holds Try.pinned (OpenSpec.ofChange manytimeSizesWrong)

/-- 'forkledgerlaw39.NetworkKeeps': WHATEVER THE INPUT: true; the input reads as it did. -/
def networkKeepsSpec : ChangeSpec := { name := "networkKeeps", fn := fun _ => fun
  | [d1, d2] => { results := [.lit (.bool true)], args := [d1, d2] }
  | _ => none }
def networkKeepsRow : OpenClaim := { program := "ytengpfpeeihaoaa", sum := "dfc19d1d5c31565084a9b6150f526d0faebbf7d60fbd32b50ede8d5e8a6dd4d8", func := "forkledger/forkledgerlaw39.NetworkKeeps", spec := "networkKeeps", unfollowed := true, recurses := true, plainKeys := false, apart := false }
def NetworkKeepsSaid : Prop := networkKeepsRow.holds Try.pinned (OpenSpec.ofChange networkKeepsSpec)

/-- ITS FALSE NEIGHBOUR: 'it returns false'. Refute it at one input. -/
def networkKeepsWrong : ChangeSpec := { name := "networkKeeps", fn := fun _ => fun
  | [d1, d2] => { results := [.lit (.bool false)], args := [d1, d2] }
  | _ => none }
def NetworkKeepsWrongFalsely : Prop := networkKeepsRow.holds Try.pinned (OpenSpec.ofChange networkKeepsWrong)

/-- 'forkledgerlaw39.NetworkPlays': WHATEVER THE INPUT: true; the input reads as it did. -/
def networkPlaysSpec : ChangeSpec := { name := "networkPlays", fn := fun _ => fun
  | [d1, d2, d3] => { results := [.lit (.bool true)], args := [d1, d2, d3] }
  | _ => none }
def networkPlaysRow : OpenClaim := { program := "ytengpfpeeihaoaa", sum := "dfc19d1d5c31565084a9b6150f526d0faebbf7d60fbd32b50ede8d5e8a6dd4d8", func := "forkledger/forkledgerlaw39.NetworkPlays", spec := "networkPlays", unfollowed := true, recurses := true, plainKeys := false, apart := false }
def NetworkPlaysSaid : Prop := networkPlaysRow.holds Try.pinned (OpenSpec.ofChange networkPlaysSpec)

/-- ITS FALSE NEIGHBOUR: 'it returns false'. Refute it at one input. -/
def networkPlaysWrong : ChangeSpec := { name := "networkPlays", fn := fun _ => fun
  | [d1, d2, d3] => { results := [.lit (.bool false)], args := [d1, d2, d3] }
  | _ => none }
def NetworkPlaysWrongFalsely : Prop := networkPlaysRow.holds Try.pinned (OpenSpec.ofChange networkPlaysWrong)

/-- 'forkledgerlaw39.NetworkNil': WHATEVER THE INPUT: true; the input reads as it did. -/
def networkNilSpec : ChangeSpec := { name := "networkNil", fn := fun _ => fun
  | [d] => { results := [.lit (.bool true)], args := [d] }
  | _ => none }
def networkNilRow : OpenClaim := { program := "ytengpfpeeihaoaa", sum := "dfc19d1d5c31565084a9b6150f526d0faebbf7d60fbd32b50ede8d5e8a6dd4d8", func := "forkledger/forkledgerlaw39.NetworkNil", spec := "networkNil", unfollowed := true, recurses := true, plainKeys := false, apart := false }
def NetworkNilSaid : Prop := networkNilRow.holds Try.pinned (OpenSpec.ofChange networkNilSpec)

/-- ITS FALSE NEIGHBOUR: 'it returns false'. Refute it at one input. -/
def networkNilWrong : ChangeSpec := { name := "networkNil", fn := fun _ => fun
  | [d] => { results := [.lit (.bool false)], args := [d] }
  | _ => none }
def NetworkNilWrongFalsely : Prop := networkNilRow.holds Try.pinned (OpenSpec.ofChange networkNilWrong)

/-- 'forkledgerlaw5.ManytimeVerifies': WHATEVER THE INPUT: true; the input reads as it did. -/
def manytimeVerifiesSpec : ChangeSpec := { name := "manytimeVerifies", fn := fun _ => fun
  | [d1, d2, d3, d4, d5, d6, d7, d8] => { results := [.lit (.bool true)], args := [d1, d2, d3, d4, d5, d6, d7, d8] }
  | _ => none }
def manytimeVerifiesRow : OpenClaim := { program := "ytengpfpeeihaoaa", sum := "dfc19d1d5c31565084a9b6150f526d0faebbf7d60fbd32b50ede8d5e8a6dd4d8", func := "forkledger/forkledgerlaw5.ManytimeVerifies", spec := "manytimeVerifies", recurses := true, plainKeys := false, apart := false }
def ManytimeVerifiesSaid : Prop := manytimeVerifiesRow.holds Try.pinned (OpenSpec.ofChange manytimeVerifiesSpec)

/-- ITS FALSE NEIGHBOUR: 'it returns false'. Refute it at one input. -/
def manytimeVerifiesWrong : ChangeSpec := { name := "manytimeVerifies", fn := fun _ => fun
  | [d1, d2, d3, d4, d5, d6, d7, d8] => { results := [.lit (.bool false)], args := [d1, d2, d3, d4, d5, d6, d7, d8] }
  | _ => none }
def ManytimeVerifiesWrongFalsely : Prop := manytimeVerifiesRow.holds Try.pinned (OpenSpec.ofChange manytimeVerifiesWrong)

/-- 'forkledgerlaw5.ManytimeSigns': WHATEVER THE INPUT: true; the input reads as it did. -/
def manytimeSignsSpec : ChangeSpec := { name := "manytimeSigns", fn := fun _ => fun
  | [d1, d2, d3, d4] => { results := [.lit (.bool true)], args := [d1, d2, d3, d4] }
  | _ => none }
def manytimeSignsRow : OpenClaim := { program := "ytengpfpeeihaoaa", sum := "dfc19d1d5c31565084a9b6150f526d0faebbf7d60fbd32b50ede8d5e8a6dd4d8", func := "forkledger/forkledgerlaw5.ManytimeSigns", spec := "manytimeSigns", recurses := true, plainKeys := false, apart := false }
def ManytimeSignsSaid : Prop := manytimeSignsRow.holds Try.pinned (OpenSpec.ofChange manytimeSignsSpec)

/-- ITS FALSE NEIGHBOUR: 'it returns false'. Refute it at one input. -/
def manytimeSignsWrong : ChangeSpec := { name := "manytimeSigns", fn := fun _ => fun
  | [d1, d2, d3, d4] => { results := [.lit (.bool false)], args := [d1, d2, d3, d4] }
  | _ => none }
def ManytimeSignsWrongFalsely : Prop := manytimeSignsRow.holds Try.pinned (OpenSpec.ofChange manytimeSignsWrong)

/-- 'forkledgerlaw5.ManytimeKeys': WHATEVER THE INPUT: true; the input reads as it did. -/
def manytimeKeysSpec : ChangeSpec := { name := "manytimeKeys", fn := fun _ => fun
  | [d1, d2, d3, d4] => { results := [.lit (.bool true)], args := [d1, d2, d3, d4] }
  | _ => none }
def manytimeKeysRow : OpenClaim := { program := "ytengpfpeeihaoaa", sum := "dfc19d1d5c31565084a9b6150f526d0faebbf7d60fbd32b50ede8d5e8a6dd4d8", func := "forkledger/forkledgerlaw5.ManytimeKeys", spec := "manytimeKeys", recurses := true, plainKeys := false, apart := false }
def ManytimeKeysSaid : Prop := manytimeKeysRow.holds Try.pinned (OpenSpec.ofChange manytimeKeysSpec)

/-- ITS FALSE NEIGHBOUR: 'it returns false'. Refute it at one input. -/
def manytimeKeysWrong : ChangeSpec := { name := "manytimeKeys", fn := fun _ => fun
  | [d1, d2, d3, d4] => { results := [.lit (.bool false)], args := [d1, d2, d3, d4] }
  | _ => none }
def ManytimeKeysWrongFalsely : Prop := manytimeKeysRow.holds Try.pinned (OpenSpec.ofChange manytimeKeysWrong)

/-- 'forkledgerlaw5.ManytimeAccepts': WHATEVER THE INPUT: true; the input reads as it did. -/
def manytimeAcceptsSpec : ChangeSpec := { name := "manytimeAccepts", fn := fun _ => fun
  | [d1, d2, d3, d4] => { results := [.lit (.bool true)], args := [d1, d2, d3, d4] }
  | _ => none }
def manytimeAcceptsRow : OpenClaim := { program := "ytengpfpeeihaoaa", sum := "dfc19d1d5c31565084a9b6150f526d0faebbf7d60fbd32b50ede8d5e8a6dd4d8", func := "forkledger/forkledgerlaw5.ManytimeAccepts", spec := "manytimeAccepts", recurses := true, plainKeys := false, apart := false }
def ManytimeAcceptsSaid : Prop := manytimeAcceptsRow.holds Try.pinned (OpenSpec.ofChange manytimeAcceptsSpec)

/-- ITS FALSE NEIGHBOUR: 'it returns false'. Refute it at one input. -/
def manytimeAcceptsWrong : ChangeSpec := { name := "manytimeAccepts", fn := fun _ => fun
  | [d1, d2, d3, d4] => { results := [.lit (.bool false)], args := [d1, d2, d3, d4] }
  | _ => none }
def ManytimeAcceptsWrongFalsely : Prop := manytimeAcceptsRow.holds Try.pinned (OpenSpec.ofChange manytimeAcceptsWrong)

/-- 'forkledgerlaw5.ManytimeApart': WHATEVER THE INPUT: true; the input reads as it did. -/
def manytimeApartSpec : ChangeSpec := { name := "manytimeApart", fn := fun _ => fun
  | [d1, d2, d3, d4] => { results := [.lit (.bool true)], args := [d1, d2, d3, d4] }
  | _ => none }
def manytimeApartRow : OpenClaim := { program := "ytengpfpeeihaoaa", sum := "dfc19d1d5c31565084a9b6150f526d0faebbf7d60fbd32b50ede8d5e8a6dd4d8", func := "forkledger/forkledgerlaw5.ManytimeApart", spec := "manytimeApart", recurses := true, plainKeys := false, apart := false }
def ManytimeApartSaid : Prop := manytimeApartRow.holds Try.pinned (OpenSpec.ofChange manytimeApartSpec)

/-- ITS FALSE NEIGHBOUR: 'it returns false'. Refute it at one input. -/
def manytimeApartWrong : ChangeSpec := { name := "manytimeApart", fn := fun _ => fun
  | [d1, d2, d3, d4] => { results := [.lit (.bool false)], args := [d1, d2, d3, d4] }
  | _ => none }
def ManytimeApartWrongFalsely : Prop := manytimeApartRow.holds Try.pinned (OpenSpec.ofChange manytimeApartWrong)

/- THE SECOND FORM. 'bulk': how many values and letters a reading holds, each counted each time it is reached (what is shared counts as often as it is met; a slice's spare places count too). A statement '..UptoSaid' is the law's where the arguments, and the package variables that the reading takes, are together of bulk at most 1048576: NARROWER than '..Said'. Prove '..Said' where nothing that the law and all that it calls make is longer than what came in: it says more and counts as full. Else prove '..UptoSaid'. A law counts once. -/
mutual
def uptoBulk {H : Type} : DataW H → Nat
  | .lit (.string bytes) => bytes.length + 1
  | .lit _ => 1
  | .nil => 1
  | .ptr d => uptoBulk d + 1
  | .slice elems spare => uptoBulkAll elems + uptoBulkAll spare + 1
  | .agg parts => uptoBulkAll parts + 1
  | .iface _ d => uptoBulk d + 1
  | .map entries => uptoBulkEntries entries + 1
  | .held _ => 1
def uptoBulkAll {H : Type} : List (DataW H) → Nat
  | [] => 0
  | d :: r => uptoBulk d + uptoBulkAll r
def uptoBulkEntries {H : Type} : List (Lit × DataW H) → Nat
  | [] => 0
  | x :: r => uptoBulkEntry x + uptoBulkEntries r
def uptoBulkEntry {H : Type} : Lit × DataW H → Nat
  | (.string bytes, d) => bytes.length + uptoBulk d + 1
  | (_, d) => uptoBulk d + 1
 end
def uptoSmall : (H : Type) → List (DataW H) → Bool := fun _ ds => decide (uptoBulkAll ds ≤ 1048576)
def OpenSpec.upto (s : _root_.Go.ChangeSpec) : _root_.Go.OpenSpec := { _root_.Go.OpenSpec.ofChange s with cond := some uptoSmall }

/-- 'forkledgerlaw5.ManytimeSizes', WHERE WHAT IT READS IS OF BULK AT MOST 1048576: true; the input reads as it did. -/
def manytimeSizesUptoRow : OpenClaim := { program := "ytengpfpeeihaoaa", sum := "dfc19d1d5c31565084a9b6150f526d0faebbf7d60fbd32b50ede8d5e8a6dd4d8", func := "forkledger/forkledgerlaw5.ManytimeSizes", spec := "manytimeSizes", plainKeys := false, apart := false, narrowed := true }
def ManytimeSizesUptoSaid : Prop := manytimeSizesUptoRow.holds Try.pinned (OpenSpec.upto manytimeSizesSpec)

/-- 'forkledgerlaw39.NetworkKeeps', WHERE WHAT IT READS IS OF BULK AT MOST 1048576: true; the input reads as it did. -/
def networkKeepsUptoRow : OpenClaim := { program := "ytengpfpeeihaoaa", sum := "dfc19d1d5c31565084a9b6150f526d0faebbf7d60fbd32b50ede8d5e8a6dd4d8", func := "forkledger/forkledgerlaw39.NetworkKeeps", spec := "networkKeeps", unfollowed := true, recurses := true, plainKeys := false, apart := false, narrowed := true }
def NetworkKeepsUptoSaid : Prop := networkKeepsUptoRow.holds Try.pinned (OpenSpec.upto networkKeepsSpec)

/-- 'forkledgerlaw39.NetworkPlays', WHERE WHAT IT READS IS OF BULK AT MOST 1048576: true; the input reads as it did. -/
def networkPlaysUptoRow : OpenClaim := { program := "ytengpfpeeihaoaa", sum := "dfc19d1d5c31565084a9b6150f526d0faebbf7d60fbd32b50ede8d5e8a6dd4d8", func := "forkledger/forkledgerlaw39.NetworkPlays", spec := "networkPlays", unfollowed := true, recurses := true, plainKeys := false, apart := false, narrowed := true }
def NetworkPlaysUptoSaid : Prop := networkPlaysUptoRow.holds Try.pinned (OpenSpec.upto networkPlaysSpec)

/-- 'forkledgerlaw39.NetworkNil', WHERE WHAT IT READS IS OF BULK AT MOST 1048576: true; the input reads as it did. -/
def networkNilUptoRow : OpenClaim := { program := "ytengpfpeeihaoaa", sum := "dfc19d1d5c31565084a9b6150f526d0faebbf7d60fbd32b50ede8d5e8a6dd4d8", func := "forkledger/forkledgerlaw39.NetworkNil", spec := "networkNil", unfollowed := true, recurses := true, plainKeys := false, apart := false, narrowed := true }
def NetworkNilUptoSaid : Prop := networkNilUptoRow.holds Try.pinned (OpenSpec.upto networkNilSpec)

/-- 'forkledgerlaw5.ManytimeVerifies', WHERE WHAT IT READS IS OF BULK AT MOST 1048576: true; the input reads as it did. -/
def manytimeVerifiesUptoRow : OpenClaim := { program := "ytengpfpeeihaoaa", sum := "dfc19d1d5c31565084a9b6150f526d0faebbf7d60fbd32b50ede8d5e8a6dd4d8", func := "forkledger/forkledgerlaw5.ManytimeVerifies", spec := "manytimeVerifies", recurses := true, plainKeys := false, apart := false, narrowed := true }
def ManytimeVerifiesUptoSaid : Prop := manytimeVerifiesUptoRow.holds Try.pinned (OpenSpec.upto manytimeVerifiesSpec)

/-- 'forkledgerlaw5.ManytimeSigns', WHERE WHAT IT READS IS OF BULK AT MOST 1048576: true; the input reads as it did. -/
def manytimeSignsUptoRow : OpenClaim := { program := "ytengpfpeeihaoaa", sum := "dfc19d1d5c31565084a9b6150f526d0faebbf7d60fbd32b50ede8d5e8a6dd4d8", func := "forkledger/forkledgerlaw5.ManytimeSigns", spec := "manytimeSigns", recurses := true, plainKeys := false, apart := false, narrowed := true }
def ManytimeSignsUptoSaid : Prop := manytimeSignsUptoRow.holds Try.pinned (OpenSpec.upto manytimeSignsSpec)

/-- 'forkledgerlaw5.ManytimeKeys', WHERE WHAT IT READS IS OF BULK AT MOST 1048576: true; the input reads as it did. -/
def manytimeKeysUptoRow : OpenClaim := { program := "ytengpfpeeihaoaa", sum := "dfc19d1d5c31565084a9b6150f526d0faebbf7d60fbd32b50ede8d5e8a6dd4d8", func := "forkledger/forkledgerlaw5.ManytimeKeys", spec := "manytimeKeys", recurses := true, plainKeys := false, apart := false, narrowed := true }
def ManytimeKeysUptoSaid : Prop := manytimeKeysUptoRow.holds Try.pinned (OpenSpec.upto manytimeKeysSpec)

/-- 'forkledgerlaw5.ManytimeAccepts', WHERE WHAT IT READS IS OF BULK AT MOST 1048576: true; the input reads as it did. -/
def manytimeAcceptsUptoRow : OpenClaim := { program := "ytengpfpeeihaoaa", sum := "dfc19d1d5c31565084a9b6150f526d0faebbf7d60fbd32b50ede8d5e8a6dd4d8", func := "forkledger/forkledgerlaw5.ManytimeAccepts", spec := "manytimeAccepts", recurses := true, plainKeys := false, apart := false, narrowed := true }
def ManytimeAcceptsUptoSaid : Prop := manytimeAcceptsUptoRow.holds Try.pinned (OpenSpec.upto manytimeAcceptsSpec)

/-- 'forkledgerlaw5.ManytimeApart', WHERE WHAT IT READS IS OF BULK AT MOST 1048576: true; the input reads as it did. -/
def manytimeApartUptoRow : OpenClaim := { program := "ytengpfpeeihaoaa", sum := "dfc19d1d5c31565084a9b6150f526d0faebbf7d60fbd32b50ede8d5e8a6dd4d8", func := "forkledger/forkledgerlaw5.ManytimeApart", spec := "manytimeApart", recurses := true, plainKeys := false, apart := false, narrowed := true }
def ManytimeApartUptoSaid : Prop := manytimeApartUptoRow.holds Try.pinned (OpenSpec.upto manytimeApartSpec)

end Rows
end Go.Proofs.Ytengpfpeeihaoaa
