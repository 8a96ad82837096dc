/- NewKey (the reference's). -/
import Derived.Test.YtengpfpeeihaoaaSig3
namespace Go.Proofs.Ytengpfpeeihaoaa
open Go.RowKit
set_option linter.unusedVariables false
set_option linter.unusedSimpArgs false
/-- the cells of a new key -/
def keyC (seed : UInt64) (A : Option Addr) (c : Nat) : Array Value := #[.int .u8 (nb8 seed 0), .int .u8 (nb8 seed 1), .int .u8 (nb8 seed 2), .int .u8 (nb8 seed 3), .int .u8 (nb8 seed 4), .int .u8 (nb8 seed 5), .int .u8 (nb8 seed 6), .int .u8 (nb8 seed 7), .slice A 32 c, .slice none 0 0, .slice none 0 0, .slice none 0 0, .slice none 0 0, .slice none 0 0, .slice none 0 0, .slice none 0 0, .slice none 0 0, .slice none 0 0, .slice none 0 0, .slice none 0 0, .slice none 0 0, .slice none 0 0, .slice none 0 0, .slice none 0 0, .slice none 0 0, .slice none 0 0, .slice none 0 0, .slice none 0 0, .slice none 0 0, .slice none 0 0, .slice none 0 0, .slice none 0 0, .slice none 0 0, .slice none 0 0, .slice none 0 0, .slice none 0 0, .slice none 0 0, .slice none 0 0, .slice none 0 0, .slice none 0 0, .slice none 0 0]
@[go_sem] theorem fold_nmc41 (n : UInt64) : Array.foldl (fun (cs : Array Value) (x : Value × Nat) => cs.setIfInBounds x.snd x.fst) #[.int .u8 0, .int .u8 0, .int .u8 0, .int .u8 0, .int .u8 0, .int .u8 0, .int .u8 0, .int .u8 0, .slice none 0 0, .slice none 0 0, .slice none 0 0, .slice none 0 0, .slice none 0 0, .slice none 0 0, .slice none 0 0, .slice none 0 0, .slice none 0 0, .slice none 0 0, .slice none 0 0, .slice none 0 0, .slice none 0 0, .slice none 0 0, .slice none 0 0, .slice none 0 0, .slice none 0 0, .slice none 0 0, .slice none 0 0, .slice none 0 0, .slice none 0 0, .slice none 0 0, .slice none 0 0, .slice none 0 0, .slice none 0 0, .slice none 0 0, .slice none 0 0, .slice none 0 0, .slice none 0 0, .slice none 0 0, .slice none 0 0, .slice none 0 0, .slice none 0 0] (nmc n).zipIdx 0 8 = #[.int .u8 (nb8 n 0), .int .u8 (nb8 n 1), .int .u8 (nb8 n 2), .int .u8 (nb8 n 3), .int .u8 (nb8 n 4), .int .u8 (nb8 n 5), .int .u8 (nb8 n 6), .int .u8 (nb8 n 7), .slice none 0 0, .slice none 0 0, .slice none 0 0, .slice none 0 0, .slice none 0 0, .slice none 0 0, .slice none 0 0, .slice none 0 0, .slice none 0 0, .slice none 0 0, .slice none 0 0, .slice none 0 0, .slice none 0 0, .slice none 0 0, .slice none 0 0, .slice none 0 0, .slice none 0 0, .slice none 0 0, .slice none 0 0, .slice none 0 0, .slice none 0 0, .slice none 0 0, .slice none 0 0, .slice none 0 0, .slice none 0 0, .slice none 0 0, .slice none 0 0, .slice none 0 0, .slice none 0 0, .slice none 0 0, .slice none 0 0, .slice none 0 0, .slice none 0 0] := by
  rw [← nmc_nb8 n]
  kernel_rfl
set_option maxRecDepth 100000 in
set_option maxHeartbeats 1000000 in
theorem refNewKey_any (seed : UInt64) (w : World) :
    Calls Try.prog 52 #[.agg (nmc seed)] w fun e w' => ∃ B A c, e = .returned (.pointer (some ⟨B, 0, none⟩)) ∧ Blk w' B 108 (keyC seed A c) ∧ SlN w' A 32 c (leavesU seed 2 0) ∧ Ext w w' := by
  have hbs := Blk.new w 61 (nmc seed)
  have HE0 := Lib.hid ((Ext.refl w).alloc' (.cells (nmc seed) 61))
  have HBS := Lib.hid hbs
  have hrs := rangeN hbs
  go_enter Try.func52, Try.ntmps52
  go_wp2_with fail
  have HSS := Lib.hid (fun (w' : World) (hx : Ext (w.alloc (.cells (nmc seed) 61)).drew w') => (cells8 (HBS.out.drew.ext hx) : ∀ i, i < 8 → w'.cell? ⟨w.heap.size, i, none⟩ = some (.int .u8 (nb8 seed i))))
  have hX := Ext.refl (w.alloc (.cells (nmc seed) 61)).drew
  have HZ0 := Lib.hid (show (0 : Int) ≤ 0 ∧ (0 : Int) ≤ 100000 from by omega)
  clear hbs hrs
  go_region_held3 (fun w' => (∀ i, i < 8 → w'.cell? ⟨w.heap.size, i, none⟩ = some (.int .u8 (nb8 seed i)))) (first | (with_reducible exact HSS.out _ hX) | (with_reducible exact HSS.out _ (hX.alloc' _)) | fail "CELLS") (first | (go_at_call 55; (with_reducible refine (refLeaves_any seed 2 0 HZ0.out.1 HZ0.out.2 _).mono ?_); rintro e w1 ⟨A1, c1, rfl, hs1, he1⟩; have hX := hX.trans he1) | fail "LEAVES")
  all_goals (go_wp2_with fail; go_ret; exact ⟨w1.heap.size, A1, c1, rfl, Blk.new _ _ _, hs1.ext ((Ext.refl _).alloc' _), HE0.out.trans ((Ext.refl _).drew'.trans (hX.alloc' _))⟩)
end Go.Proofs.Ytengpfpeeihaoaa
