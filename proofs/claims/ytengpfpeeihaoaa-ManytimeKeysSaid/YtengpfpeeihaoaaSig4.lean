/- NewKey (the reference's). -/
import Derived.Test.YtengpfpeeihaoaaSig3
namespace Go.Proofs.Ytengpfpeeihaoaa
open Go.RowKit
set_option linter.unusedVariables false
set_option linter.unusedSimpArgs false
/-- the cells of a new key -/
def keyC (seed : UInt64) (A : Option Addr) (c : Nat) : Array Value := #[.int .u8 (nb8 seed 0), .int .u8 (nb8 seed 1), .int .u8 (nb8 seed 2), .int .u8 (nb8 seed 3), .int .u8 (nb8 seed 4), .int .u8 (nb8 seed 5), .int .u8 (nb8 seed 6), .int .u8 (nb8 seed 7), .slice A 32 c, .slice none 0 0, .slice none 0 0, .slice none 0 0, .slice none 0 0, .slice none 0 0, .slice none 0 0, .slice none 0 0, .slice none 0 0, .slice none 0 0, .slice none 0 0, .slice none 0 0, .slice none 0 0, .slice none 0 0, .slice none 0 0, .slice none 0 0, .slice none 0 0, .slice none 0 0, .slice none 0 0, .slice none 0 0, .slice none 0 0, .slice none 0 0, .slice none 0 0, .slice none 0 0, .slice none 0 0, .slice none 0 0, .slice none 0 0, .slice none 0 0, .slice none 0 0, .slice none 0 0, .slice none 0 0, .slice none 0 0, .slice none 0 0]
@[go_sem] theorem fold_nmc41 (n : UInt64) : Array.foldl (fun (cs : Array Value) (x : Value × Nat) => cs.setIfInBounds x.snd x.fst) #[.int .u8 0, .int .u8 0, .int .u8 0, .int .u8 0, .int .u8 0, .int .u8 0, .int .u8 0, .int .u8 0, .slice none 0 0, .slice none 0 0, .slice none 0 0, .slice none 0 0, .slice none 0 0, .slice none 0 0, .slice none 0 0, .slice none 0 0, .slice none 0 0, .slice none 0 0, .slice none 0 0, .slice none 0 0, .slice none 0 0, .slice none 0 0, .slice none 0 0, .slice none 0 0, .slice none 0 0, .slice none 0 0, .slice none 0 0, .slice none 0 0, .slice none 0 0, .slice none 0 0, .slice none 0 0, .slice none 0 0, .slice none 0 0, .slice none 0 0, .slice none 0 0, .slice none 0 0, .slice none 0 0, .slice none 0 0, .slice none 0 0, .slice none 0 0, .slice none 0 0] (nmc n).zipIdx 0 8 = #[.int .u8 (nb8 n 0), .int .u8 (nb8 n 1), .int .u8 (nb8 n 2), .int .u8 (nb8 n 3), .int .u8 (nb8 n 4), .int .u8 (nb8 n 5), .int .u8 (nb8 n 6), .int .u8 (nb8 n 7), .slice none 0 0, .slice none 0 0, .slice none 0 0, .slice none 0 0, .slice none 0 0, .slice none 0 0, .slice none 0 0, .slice none 0 0, .slice none 0 0, .slice none 0 0, .slice none 0 0, .slice none 0 0, .slice none 0 0, .slice none 0 0, .slice none 0 0, .slice none 0 0, .slice none 0 0, .slice none 0 0, .slice none 0 0, .slice none 0 0, .slice none 0 0, .slice none 0 0, .slice none 0 0, .slice none 0 0, .slice none 0 0, .slice none 0 0, .slice none 0 0, .slice none 0 0, .slice none 0 0, .slice none 0 0, .slice none 0 0, .slice none 0 0, .slice none 0 0] := by
  rw [← nmc_nb8 n]
  kernel_rfl
set_option maxRecDepth 100000 in
set_option maxHeartbeats 1000000 in
theorem refNewKey_any (seed : UInt64) (w : World) :
    Calls Try.prog 52 #[.agg (nmc seed)] w fun e w' => ∃ B A c, e = .returned (.pointer (some ⟨B, 0, none⟩)) ∧ Blk w' B 108 (keyC seed A c) ∧ SlN w' A 32 c (leavesU seed 2 0) ∧ Ext w w' := by
  have hbs := Blk.new w 61 (nmc seed)
  have HE0 := Lib.hid ((Ext.refl w).alloc' (.cells (nmc seed) 61))
  have HBS := Lib.hid hbs
  have hrs := rangeN hbs
  go_enter Try.func52, Try.ntmps52
  go_wp2_with fail
  have HSS := Lib.hid (fun (w' : World) (hx : Ext (w.alloc (.cells (nmc seed) 61)).drew w') => (cells8 (HBS.out.drew.ext hx) : ∀ i, i < 8 → w'.cell? ⟨w.heap.size, i, none⟩ = some (.int .u8 (nb8 seed i))))
  have hX := Ext.refl (w.alloc (.cells (nmc seed) 61)).drew
  have HZ0 := Lib.hid (show (0 : Int) ≤ 0 ∧ (0 : Int) ≤ 100000 from by omega)
  clear hbs hrs
  go_region_held3 (fun w' => (∀ i, i < 8 → w'.cell? ⟨w.heap.size, i, none⟩ = some (.int .u8 (nb8 seed i)))) (first | (with_reducible exact HSS.out _ hX) | (with_reducible exact HSS.out _ (hX.alloc' _)) | fail "CELLS") (first | (go_at_call 55; (with_reducible refine (refLeaves_any seed 2 0 HZ0.out.1 HZ0.out.2 _).mono ?_); rintro e w1 ⟨A1, c1, rfl, hs1, he1⟩; have hX := hX.trans he1) | fail "LEAVES")
  all_goals (go_wp2_with fail; go_ret; exact ⟨w1.heap.size, A1, c1, rfl, Blk.new _ _ _, hs1.ext ((Ext.refl _).alloc' _), HE0.out.trans ((Ext.refl _).drew'.trans (hX.alloc' _))⟩)
end Go.Proofs.Ytengpfpeeihaoaa
/- OneSign (the reference's) once more: its slice is new. -/
namespace Go.Proofs.Ytengpfpeeihaoaa
open Go.RowKit
set_option linter.unusedVariables false
set_option linter.unusedSimpArgs false
set_option maxRecDepth 100000 in
set_option maxHeartbeats 1000000 in
theorem refOneSign_own (seed m : UInt64) (w : World) :
    Calls Try.prog 57 #[.agg (nmc seed), .agg (nmc m)] w fun e w' => ∃ A c, e = .returned (.slice A 18 c) ∧ w'.ownsRow w.heap.size 61 8 (.slice A 18 c) 18 (ncs (oneSig seed m)) ∧ Ext w w' := by
  go_enter Try.func57, Try.ntmps57
  go_wp2_with (with_reducible refine wpList_loadN rfl (.tmp 3) rfl (w.heap.size + 1) 0 rfl m ?h1 ?_)
  case h1 => exact rangeN (Blk.newAt _ _ _ _ (by simp))
  go_wp2_with fail
  refine (refDigits_any m _).mono ?_
  rintro e w0 ⟨b, cd, rfl, hra, hbg, he0⟩
  go_wp2_with fail
  have hS0 : Blk w0 w.heap.size 61 (nmc seed) := ((Blk.new w _ _).alloc _).ext he0
  have hE0 : Ext w w0 := (((Ext.refl w).alloc' _).alloc' _).trans he0
  have hbl := rangeAt_lt hra (by intro h; have := congrArg List.length h; simp [ics, digs_length] at this)
  go_loopw [6, 7] (fun v i wr => ∃ (k : Nat) (A : Option Addr) (c : Nat), k ≤ 18 ∧ i = .int .i64 (k : Int) ∧ v = .slice A k c ∧ wr.ownsRow w0.heap.size 61 8 (.slice A k c) k (ncs ((List.range k).map (sigF seed m))) ∧ Ext w0 wr) (fun _ i _ => 18 - (intOf i).toNat)
  case atStart => exact ⟨0, _, _, by omega, rfl, rfl, World.ownsRow_nil _ _ _ _, Ext.refl _⟩
  case round =>
    obtain ⟨k, A, c, hk, rfl, rfl, hO, hB⟩ := hrel
    by_cases hlt : k < 18
    · have hS := hS0.ext hB
      have hrs := rangeN hS
      have hcd := ics_dig (rangeAt_keep hra (hB.block b hbl)) k hlt
      rw [Nat.zero_add] at hcd
      have HR := Lib.hid (show (List.range (k + 1)).map (sigF seed m) = (List.range k).map (sigF seed m) ++ [sigF seed m k] by rw [List.range_succ, List.map_append]; rfl)
      have hu := Try.underlying61
      have hi := size61b seed
      have hk8 : (k : Int) < 18 := by omega
      go_wp2_with fail
      have SS : ∀ w', Ext w0 w' → (∀ i, i < 8 → w'.cell? ⟨w.heap.size, i, none⟩ = some (.int .u8 (nb8 seed i))) ∧ w'.cell? ⟨b, k, none⟩ = some (.int .i64 (dig m k)) := fun w' hx => ⟨cells8 (hS0.ext hx), (hx.cell (p := ⟨b, k, none⟩) hbl).trans (by have := ics_dig hra k hlt; rwa [Nat.zero_add] at this)⟩
      have HSS := Lib.hid SS
      clear SS
      have hszr := hB.size
      have hX0 : Ext wr wr.drew := (Ext.refl wr).drew'
      have hG : ∀ (w2 : World) (o : Obj), w0.heap.size ≤ w2.heap.size → w0.heap.size ≤ (w2.alloc o).heap.size := fun w2 o h => by simp; omega
      have HG := Lib.hid hG
      clear hG
      go_region_held3 (fun w' => (∀ i, i < 8 → w'.cell? ⟨w.heap.size, i, none⟩ = some (.int .u8 (nb8 seed i))) ∧ w'.cell? ⟨b, k, none⟩ = some (.int .i64 (dig m k))) (first | exact HSS.out _ (hB.trans hX0) | exact HSS.out _ (hB.trans hX1) | exact HSS.out _ (hB.trans hX2) | exact HSS.out _ ((hB.trans hX2).alloc' _) | exact HSS.out _ hw3) (first | (go_at_call 76; refine (refStartP seed k _).mono ?_; rintro e w1 ⟨rfl, he1⟩; have hX1 := hX0.trans he1) | (go_at_call 75; refine (chainSig seed m k hlt _).mono ?_; rintro e w2 ⟨rfl, he2⟩; have hX2 := hX1.trans he2; have hO2 := own_ext hO hX2; have hsz2 := Nat.le_trans hszr hX2.size) | (refine step_app namesE rfl (.tmp 14) (.tmp 24) rfl w0.heap.size A k c (ncs ((List.range k).map (sigF seed m))) (by rfl) (hO2.alloc _) (some ⟨w2.heap.size, 0, none⟩) 1 1 (ncs [sigF seed m k]) (by rfl) (Rd.newN _ _ _ _ rfl) (by rw [ncs_length]; rfl) (ncs_one _) (by omega) (by omega) (HG.out _ _ hsz2) w0 (Below.alloc (Below.trans hB (hX2.mono hszr)) hsz2 _) ?_; intro A1 c1 w3 ho3 hw3 hs3))
      go_wp2_with fail
      go_roundw
      case rel => exact ⟨k + 1, A1, c1, by omega, by go_num, by go_num, by rw [HR.out, ncs_append]; exact ho3, hw3⟩
      case measure => simp [intOf]; omega
    · obtain rfl : k = 18 := by omega
      go_wp2_with fail
      go_ret
      exact ⟨A, c, rfl, own_mono hO hE0.size, hE0.trans hB⟩
end Go.Proofs.Ytengpfpeeihaoaa
