/- A slice literal of one name; a struct or array built of parts. -/
import Derived.Test.YtfklmcfanhnfpaaNm
namespace Go.Proofs.Ytfklmcfanhnfpaa
open Go.RowKit
set_option linter.unusedVariables false
set_option linter.unusedSimpArgs false

theorem fold_arr (ds cs : Array Value) (o : Nat) : ds.zipIdx.foldl (fun cs (x : Value × Nat) => cs.setIfInBounds (o + x.2) x.1) cs = (ds.toList.zipIdx 0).foldl (fun a p => a.setIfInBounds (o + p.2) p.1) cs := by
  rw [← Array.foldl_toList, Array.toList_zipIdx]
theorem fold_whole (ds cs : Array Value) (h : ds.size = cs.size) : (ds.toList.zipIdx 0).foldl (fun a p => a.setIfInBounds (0 + p.2) p.1) cs = ds := by
  apply Array.ext_getElem?
  intro j
  rw [foldl_set_get]
  by_cases hj : j < ds.size
  · rw [if_pos (by simp; omega)]; simp
  · rw [if_neg (by simp; omega), Array.getElem?_eq_none (by omega), Array.getElem?_eq_none (by omega)]
@[go_sem] theorem fold_nmc (n : UInt64) (Z : Array Value) (hZ : Z.size = 8) : Array.foldl (fun cs x => cs.setIfInBounds x.snd x.fst) Z (nmc n).zipIdx 0 (nmc n).size = nmc n := by
  have h := fold_arr (nmc n) Z 0
  rw [fold_whole _ _ (by rw [nmc_size, hZ])] at h
  simpa using h
@[go_sem] theorem fold_nmc8 (n : UInt64) (Z : Array Value) (hZ : Z.size = 8) : Array.foldl (fun cs x => cs.setIfInBounds x.snd x.fst) Z (nmc n).zipIdx 0 8 = nmc n := by
  have h := fold_nmc n Z hZ
  rwa [nmc_size] at h
attribute [go_sem] nmc_size
/-- a byte of a name, closed to the walk -/
def nb8 (n : UInt64) (i : Nat) : Int := (((nmb n).getD i 0).toNat : Int)
theorem nmc_nb8 (n : UInt64) : #[.int .u8 (nb8 n 0), .int .u8 (nb8 n 1), .int .u8 (nb8 n 2), .int .u8 (nb8 n 3), .int .u8 (nb8 n 4), .int .u8 (nb8 n 5), .int .u8 (nb8 n 6), .int .u8 (nb8 n 7)] = nmc n := by
  unfold nmc nb8
  rw [show bcs (nmb n) = bcs [(nmb n).getD 0 0, (nmb n).getD 1 0, (nmb n).getD 2 0, (nmb n).getD 3 0, (nmb n).getD 4 0, (nmb n).getD 5 0, (nmb n).getD 6 0, (nmb n).getD 7 0] from congrArg bcs (nmb_list n)]
  rfl
attribute [go_sem] nmc_nb8
theorem cells8 {w : World} {g : Nat} {t : TypeId} {n : UInt64} (h : Blk w g t (nmc n)) : ∀ i, i < 8 → w.cell? ⟨g, i, none⟩ = some (.int .u8 (nb8 n i)) := fun i hi => by
  rw [h.cell i]; exact nmc_get n i hi
theorem cells8At {w : World} {b o : Nat} {n : UInt64} (h : w.rangeAt b o (bcs (nmb n))) : ∀ i, i < 8 → w.cell? ⟨b, o + i, none⟩ = some (.int .u8 (nb8 n i)) := fun i hi => by
  refine h i _ ?_
  have hl := nmb_length n
  simp [bcs, bv, nb8, hl, hi]
theorem run_buildN1 (n : UInt64) (w : World) : (Instr.buildSlice 47 1 #[(0, .agg (nmc n))]).run Try.prog w = .ok (.slice (some ⟨w.heap.size, 0, none⟩) 1 1) (w.alloc (.cells (nmc n) 25)) := by
  obtain ⟨i, hi, hz, hs, hby⟩ := namesE.get
  have hsz := nmc_size n
  have hst : (sizeOf 25).run Try.prog w = .ok 8 w := by simp [sizeOf, typeInfo, hi, hs]
  have hzv : (zeroValue 25).run Try.prog w = .ok (.agg zcs.toArray) w := by simp [zeroValue, typeInfo, hi, hz]
  have hf : ∀ Z : Array Value, Z.size = 8 → Instr.fill (fun i => some (i * 8, 8)) Z [(0, .agg (nmc n))] = some (nmc n) := by
    intro Z hZ
    simp only [Instr.fill, Value.cells, hsz, Nat.zero_mul]
    rw [if_neg (by simp [hZ]), fold_arr, fold_whole _ _ (by rw [hsz, hZ])]
  simp [Instr.buildSlice, run_underlying namesE.ut, hst, hzv, Value.cells]
  rw [hf _ (by simp)]
  simp [newRow]
end Go.Proofs.Ytfklmcfanhnfpaa
