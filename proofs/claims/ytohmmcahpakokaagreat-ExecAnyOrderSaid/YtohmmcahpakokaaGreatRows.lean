/-
  No cell of these rows narrows 'for every input' (looked for: loops, veiled, ifaces, maps, wideKeys, modest, calm, conditions, laid).
  DERIVED. THE GIVEN ROWS OF THIS SEAT. 8 by the template 'for every input the law returns true; each argument reads behind the call as it read before'; 0 by the template 'total and deterministic' (their statements: YtohmmcahpakokaaGreatTotals.lean).
  GIVEN WITH THE SEED: the statements are not yours to turn. If you find one false, say at which input.
  Laid BY PROGRAM, IN A SANDBOX (cutbox-rows.mjs): the forced cells as the released guide's own fill.sh prints them over the translation 33f10224f8eabdc1… (all of the seat's roots in one cut). By AI agents, Wed Nov 11 2026. No macro, syntax, notation, axiom, sorry.
-/
import Derived.Test.YtohmmcahpakokaaGreatChecked
import GoSem.Claim
import GoSem.ClaimJoined
import GoSem.ClaimMapViews
import Derived.JoinedTies
import Derived.KernelRfl
namespace Go.Proofs.YtohmmcahpakokaaGreat
/- THE CELL 'sum', in the pinned program and in every row, IS THE sha256 OF THE DUMP (.gsa) THAT YtohmmcahpakokaaGreatProg.lean LOADS. Nothing in Lean hashes anything: it is a label: what it is worth is what the hold of that sum in a sandbox is worth. -/
noncomputable def Tryz.pinned : Pinned := { name := "ytohmmcahpakokaagreat", sum := "33f10224f8eabdc1f88d59ece1c57cf2fb0dffbd9a08ae6f3d989039413757c6", checked := Tryz.checked }
namespace Rows
def none {H : Type} : Left H := { results := [], args := [] }

/-- 'forkledgerlaw22.ExecEffect': WHATEVER THE INPUT: true; the input reads as it did. -/
def execEffectSpec : ChangeSpec := { name := "execEffect", fn := fun _ => fun
  | [d] => { results := [.lit (.bool true)], args := [d] }
  | _ => none }
def execEffectRow : OpenClaim := { program := "ytohmmcahpakokaagreat", sum := "33f10224f8eabdc1f88d59ece1c57cf2fb0dffbd9a08ae6f3d989039413757c6", func := "forkledger/forkledgerlaw22.ExecEffect", spec := "execEffect", inPlace := ["slices.overlaps[forkledger/api.Delta]", "slices.overlaps[forkledger/api.Lock]", "slices.overlaps[forkledger/api.Name]"], unfollowed := true, recurses := true, apart := false }
def ExecEffectSaid : Prop := execEffectRow.holds Tryz.pinned (OpenSpec.ofChange execEffectSpec)

/-- ITS FALSE NEIGHBOUR: 'it returns false'. Refute it at one input. -/
def execEffectWrong : ChangeSpec := { name := "execEffect", fn := fun _ => fun
  | [d] => { results := [.lit (.bool false)], args := [d] }
  | _ => none }
def ExecEffectWrongFalsely : Prop := execEffectRow.holds Tryz.pinned (OpenSpec.ofChange execEffectWrong)

/-- 'forkledgerlaw22.ExecExecute': WHATEVER THE INPUT: true; the input reads as it did. -/
def execExecuteSpec : ChangeSpec := { name := "execExecute", fn := fun _ => fun
  | [d1, d2, d3, d4] => { results := [.lit (.bool true)], args := [d1, d2, d3, d4] }
  | _ => none }
def execExecuteRow : OpenClaim := { program := "ytohmmcahpakokaagreat", sum := "33f10224f8eabdc1f88d59ece1c57cf2fb0dffbd9a08ae6f3d989039413757c6", func := "forkledger/forkledgerlaw22.ExecExecute", spec := "execExecute", inPlace := ["slices.overlaps[forkledger/api.Delta]", "slices.overlaps[forkledger/api.Lock]", "slices.overlaps[forkledger/api.Name]"], unfollowed := true, recurses := true, apart := false }
def ExecExecuteSaid : Prop := execExecuteRow.holds Tryz.pinned (OpenSpec.ofChange execExecuteSpec)

/-- ITS FALSE NEIGHBOUR: 'it returns false'. Refute it at one input. -/
def execExecuteWrong : ChangeSpec := { name := "execExecute", fn := fun _ => fun
  | [d1, d2, d3, d4] => { results := [.lit (.bool false)], args := [d1, d2, d3, d4] }
  | _ => none }
def ExecExecuteWrongFalsely : Prop := execExecuteRow.holds Tryz.pinned (OpenSpec.ofChange execExecuteWrong)

/-- 'forkledgerlaw22.ExecReplay': WHATEVER THE INPUT: true; the input reads as it did. -/
def execReplaySpec : ChangeSpec := { name := "execReplay", fn := fun _ => fun
  | [d1, d2] => { results := [.lit (.bool true)], args := [d1, d2] }
  | _ => none }
def execReplayRow : OpenClaim := { program := "ytohmmcahpakokaagreat", sum := "33f10224f8eabdc1f88d59ece1c57cf2fb0dffbd9a08ae6f3d989039413757c6", func := "forkledger/forkledgerlaw22.ExecReplay", spec := "execReplay", inPlace := ["slices.overlaps[forkledger/api.Delta]", "slices.overlaps[forkledger/api.Lock]", "slices.overlaps[forkledger/api.Name]"], unfollowed := true, recurses := true, apart := false }
def ExecReplaySaid : Prop := execReplayRow.holds Tryz.pinned (OpenSpec.ofChange execReplaySpec)

/-- ITS FALSE NEIGHBOUR: 'it returns false'. Refute it at one input. -/
def execReplayWrong : ChangeSpec := { name := "execReplay", fn := fun _ => fun
  | [d1, d2] => { results := [.lit (.bool false)], args := [d1, d2] }
  | _ => none }
def ExecReplayWrongFalsely : Prop := execReplayRow.holds Tryz.pinned (OpenSpec.ofChange execReplayWrong)

/-- 'forkledgerlaw22.ExecCover': WHATEVER THE INPUT: true; the input reads as it did. -/
def execCoverSpec : ChangeSpec := { name := "execCover", fn := fun _ => fun
  | [d] => { results := [.lit (.bool true)], args := [d] }
  | _ => none }
def execCoverRow : OpenClaim := { program := "ytohmmcahpakokaagreat", sum := "33f10224f8eabdc1f88d59ece1c57cf2fb0dffbd9a08ae6f3d989039413757c6", func := "forkledger/forkledgerlaw22.ExecCover", spec := "execCover", inPlace := ["slices.overlaps[forkledger/api.Delta]", "slices.overlaps[forkledger/api.Lock]", "slices.overlaps[forkledger/api.Name]"], unfollowed := true, recurses := true, apart := false }
def ExecCoverSaid : Prop := execCoverRow.holds Tryz.pinned (OpenSpec.ofChange execCoverSpec)

/-- ITS FALSE NEIGHBOUR: 'it returns false'. Refute it at one input. -/
def execCoverWrong : ChangeSpec := { name := "execCover", fn := fun _ => fun
  | [d] => { results := [.lit (.bool false)], args := [d] }
  | _ => none }
def ExecCoverWrongFalsely : Prop := execCoverRow.holds Tryz.pinned (OpenSpec.ofChange execCoverWrong)

/-- 'forkledgerlaw22.ExecConserves': WHATEVER THE INPUT: true; the input reads as it did. -/
def execConservesSpec : ChangeSpec := { name := "execConserves", fn := fun _ => fun
  | [d1, d2, d3, d4] => { results := [.lit (.bool true)], args := [d1, d2, d3, d4] }
  | _ => none }
def execConservesRow : OpenClaim := { program := "ytohmmcahpakokaagreat", sum := "33f10224f8eabdc1f88d59ece1c57cf2fb0dffbd9a08ae6f3d989039413757c6", func := "forkledger/forkledgerlaw22.ExecConserves", spec := "execConserves", inPlace := ["slices.overlaps[forkledger/api.Delta]", "slices.overlaps[forkledger/api.Lock]", "slices.overlaps[forkledger/api.Name]"], unfollowed := true, recurses := true, apart := false }
def ExecConservesSaid : Prop := execConservesRow.holds Tryz.pinned (OpenSpec.ofChange execConservesSpec)

/-- ITS FALSE NEIGHBOUR: 'it returns false'. Refute it at one input. -/
def execConservesWrong : ChangeSpec := { name := "execConserves", fn := fun _ => fun
  | [d1, d2, d3, d4] => { results := [.lit (.bool false)], args := [d1, d2, d3, d4] }
  | _ => none }
def ExecConservesWrongFalsely : Prop := execConservesRow.holds Tryz.pinned (OpenSpec.ofChange execConservesWrong)

/-- 'forkledgerlaw22.ExecSolvent': WHATEVER THE INPUT: true; the input reads as it did. -/
def execSolventSpec : ChangeSpec := { name := "execSolvent", fn := fun _ => fun
  | [d1, d2, d3, d4] => { results := [.lit (.bool true)], args := [d1, d2, d3, d4] }
  | _ => none }
def execSolventRow : OpenClaim := { program := "ytohmmcahpakokaagreat", sum := "33f10224f8eabdc1f88d59ece1c57cf2fb0dffbd9a08ae6f3d989039413757c6", func := "forkledger/forkledgerlaw22.ExecSolvent", spec := "execSolvent", inPlace := ["slices.overlaps[forkledger/api.Delta]", "slices.overlaps[forkledger/api.Lock]", "slices.overlaps[forkledger/api.Name]"], unfollowed := true, recurses := true, apart := false }
def ExecSolventSaid : Prop := execSolventRow.holds Tryz.pinned (OpenSpec.ofChange execSolventSpec)

/-- ITS FALSE NEIGHBOUR: 'it returns false'. Refute it at one input. -/
def execSolventWrong : ChangeSpec := { name := "execSolvent", fn := fun _ => fun
  | [d1, d2, d3, d4] => { results := [.lit (.bool false)], args := [d1, d2, d3, d4] }
  | _ => none }
def ExecSolventWrongFalsely : Prop := execSolventRow.holds Tryz.pinned (OpenSpec.ofChange execSolventWrong)

/-- 'forkledgerlaw22.ExecSame': WHATEVER THE INPUT: true; the input reads as it did. -/
def execSameSpec : ChangeSpec := { name := "execSame", fn := fun _ => fun
  | [d1, d2, d3, d4] => { results := [.lit (.bool true)], args := [d1, d2, d3, d4] }
  | _ => none }
def execSameRow : OpenClaim := { program := "ytohmmcahpakokaagreat", sum := "33f10224f8eabdc1f88d59ece1c57cf2fb0dffbd9a08ae6f3d989039413757c6", func := "forkledger/forkledgerlaw22.ExecSame", spec := "execSame", inPlace := ["slices.overlaps[forkledger/api.Delta]", "slices.overlaps[forkledger/api.Lock]", "slices.overlaps[forkledger/api.Name]"], unfollowed := true, recurses := true, apart := false }
def ExecSameSaid : Prop := execSameRow.holds Tryz.pinned (OpenSpec.ofChange execSameSpec)

/-- ITS FALSE NEIGHBOUR: 'it returns false'. Refute it at one input. -/
def execSameWrong : ChangeSpec := { name := "execSame", fn := fun _ => fun
  | [d1, d2, d3, d4] => { results := [.lit (.bool false)], args := [d1, d2, d3, d4] }
  | _ => none }
def ExecSameWrongFalsely : Prop := execSameRow.holds Tryz.pinned (OpenSpec.ofChange execSameWrong)

/-- 'forkledgerlaw22.ExecAnyOrder': WHATEVER THE INPUT: true; the input reads as it did. -/
def execAnyOrderSpec : ChangeSpec := { name := "execAnyOrder", fn := fun _ => fun
  | [d1, d2, d3] => { results := [.lit (.bool true)], args := [d1, d2, d3] }
  | _ => none }
def execAnyOrderRow : OpenClaim := { program := "ytohmmcahpakokaagreat", sum := "33f10224f8eabdc1f88d59ece1c57cf2fb0dffbd9a08ae6f3d989039413757c6", func := "forkledger/forkledgerlaw22.ExecAnyOrder", spec := "execAnyOrder", inPlace := ["slices.overlaps[forkledger/api.Delta]", "slices.overlaps[forkledger/api.Lock]", "slices.overlaps[forkledger/api.Name]"], unfollowed := true, recurses := true, apart := false }
def ExecAnyOrderSaid : Prop := execAnyOrderRow.holds Tryz.pinned (OpenSpec.ofChange execAnyOrderSpec)

/-- ITS FALSE NEIGHBOUR: 'it returns false'. Refute it at one input. -/
def execAnyOrderWrong : ChangeSpec := { name := "execAnyOrder", fn := fun _ => fun
  | [d1, d2, d3] => { results := [.lit (.bool false)], args := [d1, d2, d3] }
  | _ => none }
def ExecAnyOrderWrongFalsely : Prop := execAnyOrderRow.holds Tryz.pinned (OpenSpec.ofChange execAnyOrderWrong)

/- THE SECOND FORM. 'bulk': how many values and letters a reading holds, each counted each time it is reached (what is shared counts as often as it is met; a slice's spare places count too). A statement '..UptoSaid' is the law's where the arguments, and the package variables that the reading takes, are together of bulk at most 1048576: NARROWER than '..Said'. Prove '..Said' where nothing that the law and all that it calls make is longer than what came in: it says more and counts as full. Else prove '..UptoSaid'. A law counts once. -/
mutual
def uptoBulk {H : Type} : DataW H → Nat
  | .lit (.string bytes) => bytes.length + 1
  | .lit _ => 1
  | .nil => 1
  | .ptr d => uptoBulk d + 1
  | .slice elems spare => uptoBulkAll elems + uptoBulkAll spare + 1
  | .agg parts => uptoBulkAll parts + 1
  | .iface _ d => uptoBulk d + 1
  | .map entries => uptoBulkEntries entries + 1
  | .held _ => 1
def uptoBulkAll {H : Type} : List (DataW H) → Nat
  | [] => 0
  | d :: r => uptoBulk d + uptoBulkAll r
def uptoBulkEntries {H : Type} : List (Lit × DataW H) → Nat
  | [] => 0
  | x :: r => uptoBulkEntry x + uptoBulkEntries r
def uptoBulkEntry {H : Type} : Lit × DataW H → Nat
  | (.string bytes, d) => bytes.length + uptoBulk d + 1
  | (_, d) => uptoBulk d + 1
 end
def uptoSmall : (H : Type) → List (DataW H) → Bool := fun _ ds => decide (uptoBulkAll ds ≤ 1048576)
def OpenSpec.upto (s : _root_.Go.ChangeSpec) : _root_.Go.OpenSpec := { _root_.Go.OpenSpec.ofChange s with cond := some uptoSmall }

/-- 'forkledgerlaw22.ExecEffect', WHERE WHAT IT READS IS OF BULK AT MOST 1048576: true; the input reads as it did. -/
def execEffectUptoRow : OpenClaim := { program := "ytohmmcahpakokaagreat", sum := "33f10224f8eabdc1f88d59ece1c57cf2fb0dffbd9a08ae6f3d989039413757c6", func := "forkledger/forkledgerlaw22.ExecEffect", spec := "execEffect", inPlace := ["slices.overlaps[forkledger/api.Delta]", "slices.overlaps[forkledger/api.Lock]", "slices.overlaps[forkledger/api.Name]"], unfollowed := true, recurses := true, apart := false, narrowed := true }
def ExecEffectUptoSaid : Prop := execEffectUptoRow.holds Tryz.pinned (OpenSpec.upto execEffectSpec)

/-- 'forkledgerlaw22.ExecExecute', WHERE WHAT IT READS IS OF BULK AT MOST 1048576: true; the input reads as it did. -/
def execExecuteUptoRow : OpenClaim := { program := "ytohmmcahpakokaagreat", sum := "33f10224f8eabdc1f88d59ece1c57cf2fb0dffbd9a08ae6f3d989039413757c6", func := "forkledger/forkledgerlaw22.ExecExecute", spec := "execExecute", inPlace := ["slices.overlaps[forkledger/api.Delta]", "slices.overlaps[forkledger/api.Lock]", "slices.overlaps[forkledger/api.Name]"], unfollowed := true, recurses := true, apart := false, narrowed := true }
def ExecExecuteUptoSaid : Prop := execExecuteUptoRow.holds Tryz.pinned (OpenSpec.upto execExecuteSpec)

/-- 'forkledgerlaw22.ExecReplay', WHERE WHAT IT READS IS OF BULK AT MOST 1048576: true; the input reads as it did. -/
def execReplayUptoRow : OpenClaim := { program := "ytohmmcahpakokaagreat", sum := "33f10224f8eabdc1f88d59ece1c57cf2fb0dffbd9a08ae6f3d989039413757c6", func := "forkledger/forkledgerlaw22.ExecReplay", spec := "execReplay", inPlace := ["slices.overlaps[forkledger/api.Delta]", "slices.overlaps[forkledger/api.Lock]", "slices.overlaps[forkledger/api.Name]"], unfollowed := true, recurses := true, apart := false, narrowed := true }
def ExecReplayUptoSaid : Prop := execReplayUptoRow.holds Tryz.pinned (OpenSpec.upto execReplaySpec)

/-- 'forkledgerlaw22.ExecCover', WHERE WHAT IT READS IS OF BULK AT MOST 1048576: true; the input reads as it did. -/
def execCoverUptoRow : OpenClaim := { program := "ytohmmcahpakokaagreat", sum := "33f10224f8eabdc1f88d59ece1c57cf2fb0dffbd9a08ae6f3d989039413757c6", func := "forkledger/forkledgerlaw22.ExecCover", spec := "execCover", inPlace := ["slices.overlaps[forkledger/api.Delta]", "slices.overlaps[forkledger/api.Lock]", "slices.overlaps[forkledger/api.Name]"], unfollowed := true, recurses := true, apart := false, narrowed := true }
def ExecCoverUptoSaid : Prop := execCoverUptoRow.holds Tryz.pinned (OpenSpec.upto execCoverSpec)

/-- 'forkledgerlaw22.ExecConserves', WHERE WHAT IT READS IS OF BULK AT MOST 1048576: true; the input reads as it did. -/
def execConservesUptoRow : OpenClaim := { program := "ytohmmcahpakokaagreat", sum := "33f10224f8eabdc1f88d59ece1c57cf2fb0dffbd9a08ae6f3d989039413757c6", func := "forkledger/forkledgerlaw22.ExecConserves", spec := "execConserves", inPlace := ["slices.overlaps[forkledger/api.Delta]", "slices.overlaps[forkledger/api.Lock]", "slices.overlaps[forkledger/api.Name]"], unfollowed := true, recurses := true, apart := false, narrowed := true }
def ExecConservesUptoSaid : Prop := execConservesUptoRow.holds Tryz.pinned (OpenSpec.upto execConservesSpec)

/-- 'forkledgerlaw22.ExecSolvent', WHERE WHAT IT READS IS OF BULK AT MOST 1048576: true; the input reads as it did. -/
def execSolventUptoRow : OpenClaim := { program := "ytohmmcahpakokaagreat", sum := "33f10224f8eabdc1f88d59ece1c57cf2fb0dffbd9a08ae6f3d989039413757c6", func := "forkledger/forkledgerlaw22.ExecSolvent", spec := "execSolvent", inPlace := ["slices.overlaps[forkledger/api.Delta]", "slices.overlaps[forkledger/api.Lock]", "slices.overlaps[forkledger/api.Name]"], unfollowed := true, recurses := true, apart := false, narrowed := true }
def ExecSolventUptoSaid : Prop := execSolventUptoRow.holds Tryz.pinned (OpenSpec.upto execSolventSpec)

/-- 'forkledgerlaw22.ExecSame', WHERE WHAT IT READS IS OF BULK AT MOST 1048576: true; the input reads as it did. -/
def execSameUptoRow : OpenClaim := { program := "ytohmmcahpakokaagreat", sum := "33f10224f8eabdc1f88d59ece1c57cf2fb0dffbd9a08ae6f3d989039413757c6", func := "forkledger/forkledgerlaw22.ExecSame", spec := "execSame", inPlace := ["slices.overlaps[forkledger/api.Delta]", "slices.overlaps[forkledger/api.Lock]", "slices.overlaps[forkledger/api.Name]"], unfollowed := true, recurses := true, apart := false, narrowed := true }
def ExecSameUptoSaid : Prop := execSameUptoRow.holds Tryz.pinned (OpenSpec.upto execSameSpec)

/-- 'forkledgerlaw22.ExecAnyOrder', WHERE WHAT IT READS IS OF BULK AT MOST 1048576: true; the input reads as it did. -/
def execAnyOrderUptoRow : OpenClaim := { program := "ytohmmcahpakokaagreat", sum := "33f10224f8eabdc1f88d59ece1c57cf2fb0dffbd9a08ae6f3d989039413757c6", func := "forkledger/forkledgerlaw22.ExecAnyOrder", spec := "execAnyOrder", inPlace := ["slices.overlaps[forkledger/api.Delta]", "slices.overlaps[forkledger/api.Lock]", "slices.overlaps[forkledger/api.Name]"], unfollowed := true, recurses := true, apart := false, narrowed := true }
def ExecAnyOrderUptoSaid : Prop := execAnyOrderUptoRow.holds Tryz.pinned (OpenSpec.upto execAnyOrderSpec)

end Rows
end Go.Proofs.YtohmmcahpakokaaGreat
