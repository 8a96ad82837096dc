/- SameBlock, where the two are equal. -/
import Derived.Test.YtfklmcfanhnfpaaRb2
namespace Go.Proofs.Ytfklmcfanhnfpaa
open Go.RowKit
set_option linter.unusedVariables false
set_option linter.unusedSimpArgs false
attribute [local go_sem ↓] Go.wp_at_zero Go.wp_at_succ

theorem run_neqSame' (a : UInt64) (w : World) : (binOp .neq 25 (.agg (nmc a)) (.agg (nmc a))).run Try.prog w = .ok (.bool false) w := by
  have h := run_eqSame a w
  rw [run_eql_struct] at h
  rw [run_neq_struct]
  generalize (Op.equalIn 10000 25 (.agg (nmc a)) (.agg (nmc a))).run Try.prog w = r at *
  cases r with
  | ok v w' => simp [Result.andThen] at h ⊢; exact h
  | _ => simp [Result.andThen] at h
theorem keyInt (x : Int) (hx : (Lit.int .i64 x).wf = true) : Try.prog.keyLits 2 3 [.int .i64 x] = some [.int .i64 x] := by
  unfold Program.keyLits
  rw [Try.underlying3]
  simp only
  rw [if_pos ⟨trivial, hx⟩]
theorem keyChoice (x : Int) (v : UInt64) (hx : (Lit.int .i64 x).wf = true) : Try.prog.keyLits 3 76 (chL (x, v)) = some ([.int .i64 x] ++ (nmb v).map litB) := by
  have c1 : Try.prog.cellsOf 3 = 1 := by kernel_rfl
  have c9 : Try.prog.cellsOf 76 = 9 := by kernel_rfl
  have t8 : (bcs (nmb v)).take 8 = bcs (nmb v) := List.take_of_length_le (by rw [bcs_length, nmb_length]; exact Nat.le_refl _)
  unfold Program.keyLits
  rw [Try.underlying76]
  simp only
  rw [if_pos ⟨by rw [chL_length, c9], by kernel_rfl⟩]
  simp only [List.mapM_cons, List.mapM_nil, c1, cellsN, chL, List.drop_zero, List.drop_succ_cons, List.take_succ_cons, List.take_zero, keyInt x hx, t8, keyName]
  simp
theorem run_neqC (x : Int) (v : UInt64) (hx : (Lit.int .i64 x).wf = true) (w : World) : (binOp .neq 76 (.agg (chA x v)) (.agg (chA x v))).run Try.prog w = .ok (.bool false) w := by
  have hE := run_equalIn_deep (P := Try.prog) 9997 3 76 (by kernel_rfl)
  have hfm : (Value.agg (chA x v)).formed Try.prog 76 = true := by
    have c9 : Try.prog.cellsOf 76 = 9 := by kernel_rfl
    simp [Value.formed, Try.underlying76, c9]
  have hk : Try.prog.keyLits 3 76 (Value.agg (chA x v)).cells.toList = some ([.int .i64 x] ++ (nmb v).map litB) := by
    show Try.prog.keyLits 3 _ (chA x v).toList = _
    rw [chA_toList]; exact keyChoice x v hx
  obtain ⟨r, hr, hiff⟩ := hE w 3 3 _ _ _ _ hfm hfm hk hk
  rw [run_neq_struct]
  have hr' : (Op.equalIn 10000 76 (.agg (chA x v)) (.agg (chA x v))).run Try.prog w = .ok r w := hr
  rw [hr', hiff.2 rfl]; rfl
theorem pair_nine {w : World} {b o : Nat} {x : Int} {v : UInt64} (h : w.rangeAt b o (chL (x, v))) : w.cell? ⟨b, o, none⟩ = some (.int .i64 x) ∧ w.cell? ⟨b, o + 1, none⟩ = some (.int .u8 (nb8 v 0)) ∧ w.cell? ⟨b, o + 2, none⟩ = some (.int .u8 (nb8 v 1)) ∧ w.cell? ⟨b, o + 3, none⟩ = some (.int .u8 (nb8 v 2)) ∧ w.cell? ⟨b, o + 4, none⟩ = some (.int .u8 (nb8 v 3)) ∧ w.cell? ⟨b, o + 5, none⟩ = some (.int .u8 (nb8 v 4)) ∧ w.cell? ⟨b, o + 6, none⟩ = some (.int .u8 (nb8 v 5)) ∧ w.cell? ⟨b, o + 7, none⟩ = some (.int .u8 (nb8 v 6)) ∧ w.cell? ⟨b, o + 8, none⟩ = some (.int .u8 (nb8 v 7)) := by
  rw [← chA_toList] at h
  exact ⟨h 0 _ rfl, h 1 _ rfl, h 2 _ rfl, h 3 _ rfl, h 4 _ rfl, h 5 _ rfl, h 6 _ rfl, h 7 _ rfl, h 8 _ rfl⟩
set_option maxRecDepth 100000 in
set_option maxHeartbeats 4000000 in
theorem sameBlock_yes (p : UInt64) (A A' : Option Addr) (n c c' : Nat) (L : List (Int × UInt64)) (w : World) (hS : SlC w A n c L) (hS' : SlC w A' n c' L) (hn : n ≤ 1000000) (hv : ∀ k, k < n → (Lit.int .i64 (idN L k)).wf = true) :
    Calls Try.prog 25 #[.agg (blkC p A n c), .agg (blkC p A' n c')] w fun e w' => e = .returned (.bool true) ∧ Ext w w' := by
  have hlen := hS.len
  have hE := ((Ext.refl w).alloc' (.cells (blkC p A n c) 41)).alloc' (.cells (blkC p A' n c') 41)
  have HB1 := Lib.hid ((Blk.new w 41 (blkC p A n c)).alloc (.cells (blkC p A' n c') 41))
  have HB2 := Lib.hid (show Blk ((w.alloc (.cells (blkC p A n c) 41)).alloc (.cells (blkC p A' n c') 41)) (w.heap.size + 1) 41 (blkC p A' n c') from Blk.newAt _ _ _ _ (by simp))
  have HE := Lib.hid hE
  have HS := Lib.hid hS
  have HS' := Lib.hid hS'
  have HLEN := Lib.hid hlen
  have HV := Lib.hid hv
  have hq := run_neqSame' p
  clear hS hS' hE hlen hv
  rcases Nat.eq_zero_or_pos n with rfl | hn0
  · go_enter Try.func25, Try.ntmps25
    go_wp2_with fail
    go_loopw [5] (fun i wr => i = .int .i64 0 ∧ (w.alloc (.cells (blkC p A 0 c) 41)).alloc (.cells (blkC p A' 0 c') 41) = wr) (fun i _ => 0)
    case atStart => exact ⟨rfl, rfl⟩
    case round =>
      obtain ⟨rfl, rfl⟩ := hrel
      go_wp2_with fail
      go_ret
      exact ⟨rfl, HE.out⟩
  · obtain ⟨b, o, rfl, hr, hb⟩ := HS.out.at hn0
    obtain ⟨b', o', rfl, hr', hb'⟩ := HS'.out.at hn0
    have HR := Lib.hid hr
    have HR' := Lib.hid hr'
    have HBl := Lib.hid hb
    have HBl' := Lib.hid hb'
    clear hr hr' hb hb' HS HS'
    go_enter Try.func25, Try.ntmps25
    go_wp2_with fail
    go_loopw [5] (fun i wr => ∃ k : Nat, k ≤ n ∧ i = .int .i64 (k : Int) ∧ Ext ((w.alloc (.cells (blkC p (some ⟨b, o, none⟩) n c) 41)).alloc (.cells (blkC p (some ⟨b', o', none⟩) n c') 41)) wr) (fun i _ => n - (intOf i).toNat)
    case atStart => exact ⟨0, Nat.zero_le _, rfl, Ext.refl _⟩
    case round =>
      obtain ⟨k, hk, rfl, hX⟩ := hrel
      have HX := Lib.hid hX
      have hc8 : wr.cell? ⟨w.heap.size, 8, none⟩ = some (.slice (some ⟨b, o, none⟩) n c) := (HB1.out.ext hX).cell 8
      have hc8' : wr.cell? ⟨w.heap.size + 1, 8, none⟩ = some (.slice (some ⟨b', o', none⟩) n c') := (HB2.out.ext hX).cell 8
      clear hX
      by_cases hlt : k < n
      · obtain ⟨a0, a1, a2, a3, a4, a5, a6, a7, a8⟩ := pair_nine (item_at (rangeAt_keep HR.out ((HE.out.trans HX.out).block b HBl.out)) (k := k) (by rw [HLEN.out]; exact hlt))
        obtain ⟨b0, b1, b2, b3, b4, b5, b6, b7, b8⟩ := pair_nine (item_at (rangeAt_keep HR'.out ((HE.out.trans HX.out).block b' HBl'.out)) (k := k) (by rw [HLEN.out]; exact hlt))
        have hqc := run_neqC (idN L k) (vlN L k) (HV.out k hlt)
        have i0 : (0 : Int) ≤ (k : Int) := by omega
        have i1 : (k : Int) < (n : Int) := by omega
        generalize idN L k = x at *
        generalize vlN L k = v at *
        go_wp2_with fail
        go_quiet (fail)
        go_wp2_with fail
        go_roundw
        case rel => exact ⟨k + 1, by omega, by go_num, HX.out.trans (drewN_ext _ _)⟩
        case measure => simp [intOf]; omega
      · obtain rfl : k = n := by omega
        go_wp2_with fail
        go_ret
        exact ⟨rfl, HE.out.trans HX.out⟩
end Go.Proofs.Ytfklmcfanhnfpaa
