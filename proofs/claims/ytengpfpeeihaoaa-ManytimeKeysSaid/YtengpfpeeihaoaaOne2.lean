import Derived.Test.YtengpfpeeihaoaaOne
import Derived.Test.YtengpfpeeihaoaaBld
namespace Go.Proofs.Ytengpfpeeihaoaa
open Go.RowKit
set_option linter.unusedVariables false
set_option linter.unusedSimpArgs false
attribute [local go_sem ↓] Go.wp_at_zero Go.wp_at_succ

def startU (seed : UInt64) (c : Nat) : UInt64 := tagU 32 (nmb seed ++ [toB (c : Int)])
/-- the public name of a one-time key -/
def pubF (seed : UInt64) (c : Nat) : UInt64 := chainTo (startU seed c) (c : Int) 0 15
def onePub (seed : UInt64) : UInt64 := tagU 34 (((List.range 18).map (pubF seed)).flatMap nmb)
def dig (m : UInt64) (c : Nat) : Int := (digs m).getD c 0
def sigF (seed m : UInt64) (c : Nat) : UInt64 := chainTo (startU seed c) (c : Int) 0 (dig m c).toNat
def oneSig (seed m : UInt64) : List UInt64 := (List.range 18).map (sigF seed m)
/-- an entry of a list, closed to the walk -/
def nthN (l : List UInt64) (k : Nat) : UInt64 := l.getD k 0
theorem name_nth {w : World} {ns : List UInt64} {b o k : Nat} (h : w.rangeAt b o (ncs ns)) (hk : k < ns.length) : w.rangeAt b (o + k * 8) (bcs (nmb (nthN ns k))) := name_at h hk
def recF (m : UInt64) (sig : List UInt64) (c : Nat) : UInt64 := chainTo (nthN sig c) (c : Int) (dig m c) (15 - dig m c).toNat
def oneRec (m : UInt64) (sig : List UInt64) : UInt64 := tagU 34 (((List.range 18).map (recF m sig)).flatMap nmb)

theorem hmkN18 (F : Nat → UInt64) (w : World) : (Instr.makeSlice 84 (.int .i64 18) (.int .i64 18)).run Try.prog w = .ok (.slice (some ⟨w.heap.size, 0, none⟩) 18 18) (w.alloc (.cells (ncs (tabN F 18 0)).toArray 61)) := by
  obtain ⟨i, hi, hz, hs, hby⟩ := namesE.get
  have h := run_make (P := Try.prog) w 84 61 i (.agg zcs.toArray) namesE.ut hi hz .i64 .i64 18 18 (by omega) (by omega) (by rw [hby]; omega) (by omega)
  rw [hs, show (18 : Int).toNat * 8 = 18 * 8 from rfl, made_names] at h
  simpa [tabN] using h
theorem rangeN {w : World} {g : Nat} {t : TypeId} {n : UInt64} (h : Blk w g t (nmc n)) : w.rangeAt g 0 (bcs (nmb n)) := by have := rangeAt_of_blk h; rwa [nmc_toList] at this
theorem startP (seed : UInt64) (k : Nat) (w : World) : Calls Try.prog 104 #[.agg (nmc seed), .int .i64 (k : Int)] w fun e w' => e = .returned (.agg (nmc (startU seed k))) ∧ Ext w w' := start_any seed k w
theorem refStartP (seed : UInt64) (k : Nat) (w : World) : Calls Try.prog 76 #[.agg (nmc seed), .int .i64 (k : Int)] w fun e w' => e = .returned (.agg (nmc (startU seed k))) ∧ Ext w w' := refStart_any seed k w
theorem walkPub (seed : UInt64) (k : Nat) (w : World) : Calls Try.prog 99 #[.agg (nmc (startU seed k)), .int .i64 (k : Int), .int .i64 0, .int .i64 15] w fun e w' => e = .returned (.agg (nmc (pubF seed k))) ∧ Ext w w' :=
  walk_any _ k 0 15 w (by omega) (by omega) (by omega) (by omega)
theorem chainPub (seed : UInt64) (k : Nat) (w : World) : Calls Try.prog 75 #[.agg (nmc (startU seed k)), .int .i64 (k : Int), .int .i64 0, .int .i64 15] w fun e w' => e = .returned (.agg (nmc (pubF seed k))) ∧ Ext w w' :=
  refChain_any _ k 0 15 w (by omega) (by omega) (by omega) (by omega)
set_option maxRecDepth 100000 in
set_option maxHeartbeats 1000000 in
theorem onePublic_any (seed : UInt64) (w : World) :
    Calls Try.prog 91 #[.agg (nmc seed)] w fun e w' => e = .returned (.agg (nmc (onePub seed))) ∧ Ext w w' := by
  have hmk := hmkN18 (pubF seed)
  go_enter Try.func91, Try.ntmps91
  go_wp2_with fail
  go_loopw [6] (fun i wr => ∃ (k : Nat), k ≤ 18 ∧ i = .int .i64 (k : Int) ∧ Blk wr w.heap.size 61 (nmc seed) ∧ Blk wr (w.heap.size + 1) 61 zcs.toArray ∧ Blk wr (w.heap.size + 2) 61 (ncs (tabN (pubF seed) 18 k)).toArray ∧ Ext w wr) (fun i _ => 18 - (intOf i).toNat)
  case atStart => exact ⟨0, by omega, rfl, ((Blk.new w _ _).alloc _).alloc _, (Blk.newAt _ _ _ _ (by simp)).alloc _, Blk.newAt _ _ _ _ (by simp), (((Ext.refl w).alloc' _).alloc' _).alloc' _⟩
  case round =>
    obtain ⟨k, hk, rfl, hS, hZ, hT, hE⟩ := hrel
    by_cases hlt : k < 18
    · have hrs := rangeN hS
      go_wp2_with (with_reducible refine wpList_loadN rfl (.tmp 1) rfl w.heap.size 0 rfl seed hrs ?_)
      refine (startP seed k _).mono ?_
      rintro e w1 ⟨rfl, he1⟩
      go_wp2_with fail
      refine (walkPub _ _ _).mono ?_
      rintro e w2 ⟨rfl, he2⟩
      have hE2 := Ext.trans he1 he2
      have hT2 := hT.ext hE2
      have hF := Lib.hid (tabN_set (pubF seed) 18 k hlt)
      have hth : w2.there (w.heap.size + 2) (k * 8) 8 := there_blk hT2 (by rw [List.size_toArray, ncs_length, tabN_length _ _ _ hk]; omega)
      go_wp2_with (with_reducible refine wpList_storeN rfl _ _ rfl (w.heap.size + 2) (k * 8) _ rfl rfl hth ?_)
      go_roundw
      case rel => exact ⟨k + 1, by omega, by go_num, (hS.ext hE2).setCells_far (by omega) _ _, (hZ.ext hE2).setCells_far (by omega) _ _, by rw [← hF.out]; exact blk_name hT2 (by rw [tabN_length _ _ _ hk]; exact hlt) _, Below.setCells' (Ext.trans hE hE2) (by omega) _ _⟩
      case measure => simp [intOf]; omega
    · obtain rfl : k = 18 := by omega
      rw [tabN_full] at hT
      have hsl : SlN wr (some ⟨w.heap.size + 2, 0, none⟩) 18 18 ((List.range 18).map (pubF seed)) := SlN.of_blk hT (by simp) (by omega)
      go_wp2_with fail
      refine (public_any _ _ _ _ _ hsl (by omega)).mono ?_
      rintro e w3 ⟨rfl, he3⟩
      have hb0 := hZ.ext he3
      go_wp2_with (with_reducible refine wpList_storeN rfl _ _ rfl (w.heap.size + 1) 0 _ rfl rfl (thereZ hb0) ?_)
      refine bodyPost_ret (v := .agg (nmc (onePub seed))) (retN rfl _ _ (w.heap.size + 1) _ rfl (blkN hb0 _)) rfl ⟨rfl, Below.setCells' (Ext.trans hE he3) (by omega) _ _⟩
theorem Rd.newN (w : World) (t : TypeId) (n : UInt64) (g : Nat) (hg : w.heap.size = g) : Rd (w.alloc (.cells (nmc n) t)) (some ⟨g, 0, none⟩) (ncs [n]) := by
  subst hg; have := Rd.of_blk (Blk.new w t (nmc n)); rw [nmc_toList] at this; simpa [ncs] using this
set_option maxRecDepth 100000 in
set_option maxHeartbeats 1000000 in
theorem refOnePublic_any (seed : UInt64) (w : World) :
    Calls Try.prog 73 #[.agg (nmc seed)] w fun e w' => e = .returned (.agg (nmc (onePub seed))) ∧ Ext w w' := by
  go_enter Try.func73, Try.ntmps73
  go_wp2_with fail
  go_loopw [3, 4] (fun o i wr => ∃ (k : Nat) (A : Option Addr) (c : Nat), k ≤ 18 ∧ i = .int .i64 (k : Int) ∧ o = .slice A k c ∧ wr.ownsRow (w.heap.size + 2) 61 8 (.slice A k c) k (ncs ((List.range k).map (pubF seed))) ∧ Below (w.heap.size + 2) ((w.alloc (.cells (nmc seed) 61)).alloc (.cells zcs.toArray 61)) wr ∧ w.heap.size + 2 ≤ wr.heap.size) (fun _ i _ => 18 - (intOf i).toNat)
  case atStart => exact ⟨0, _, _, by omega, rfl, rfl, World.ownsRow_nil _ _ _ _, Below.refl _ _, by simp⟩
  case round =>
    obtain ⟨k, A, c, hk, rfl, rfl, hO, hB, hsz⟩ := hrel
    have hS : Blk wr w.heap.size 61 (nmc seed) := ((Blk.new w _ _).alloc _).below hB (by omega)
    have hZ : Blk wr (w.heap.size + 1) 61 zcs.toArray := (Blk.newAt _ _ _ _ (by simp)).below hB (by omega)
    by_cases hlt : k < 18
    · have hrs := rangeN hS
      have HR := Lib.hid (show (List.range (k + 1)).map (pubF seed) = (List.range k).map (pubF seed) ++ [pubF seed k] by rw [List.range_succ, List.map_append]; rfl)
      go_wp2_with (with_reducible refine wpList_loadN rfl (.tmp 1) rfl w.heap.size 0 rfl seed hrs ?_)
      refine (refStartP seed k _).mono ?_
      rintro e w1 ⟨rfl, he1⟩
      go_wp2_with fail
      refine (chainPub _ _ _).mono ?_
      rintro e w2 ⟨rfl, he2⟩
      have hE2 := Ext.trans he1 he2
      have hO2 := own_ext hO hE2
      have hB2 := Below.trans hB (hE2.mono hsz)
      have hsz2 : w.heap.size + 2 ≤ w2.heap.size := Nat.le_trans hsz hE2.size
      go_wp2_with (at_builtin; go_must (refine wpList_app namesE rfl (.tmp 9) (.tmp 15) rfl (w.heap.size + 2) _ _ _ _ rfl (hO2.alloc _) _ _ _ (ncs [pubF seed k]) rfl (Rd.newN _ _ _ _ rfl) (by rw [ncs_length]; rfl) (ncs_one _) ?b1 ?c1 ?d1 ((w.alloc (.cells (nmc seed) 61)).alloc (.cells zcs.toArray 61)) ?w1 ?_))
      case b1 => omega
      case c1 => omega
      case d1 => simp; omega
      case w1 => exact Below.alloc hB2 hsz2 _
      intro A1 c1 w3 ho3 hw3 hs3
      go_wp2_with fail
      go_roundw
      case rel => exact ⟨k + 1, A1, c1, by omega, by go_num, by go_num, by rw [HR.out, ncs_append]; exact ho3, hw3, by omega⟩
      case measure => simp [intOf]; omega
    · obtain rfl : k = 18 := by omega
      go_wp2_with fail
      refine (refEnds_any _ _ _ _ _ (SlN.of_own hO) (by omega)).mono ?_
      rintro e w3 ⟨rfl, he3⟩
      have hb0 := hZ.ext he3
      go_wp2_with (with_reducible refine wpList_storeN rfl _ _ rfl (w.heap.size + 1) 0 _ rfl rfl (thereZ hb0) ?_)
      refine bodyPost_ret (v := .agg (nmc (onePub seed))) (retN rfl _ _ (w.heap.size + 1) _ rfl (blkN hb0 _)) rfl ⟨rfl, Below.setCells' (Below.trans ((((Ext.refl w).alloc' _).alloc' _).trans (by simpa [Ext] using hB)) (he3.mono (by omega))) (by omega) _ _⟩
end Go.Proofs.Ytengpfpeeihaoaa
