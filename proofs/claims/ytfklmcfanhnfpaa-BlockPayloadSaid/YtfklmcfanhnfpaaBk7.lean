/- awake of forkledgerlaw24; the walk of BlockNames. -/
import Derived.Test.YtfklmcfanhnfpaaBk6
import Derived.Test.YtfklmcfanhnfpaaEqN
namespace Go.Proofs.Ytfklmcfanhnfpaa
open Go.RowKit
set_option linter.unusedVariables false
set_option linter.unusedSimpArgs false
attribute [local go_sem ↓] Go.wp_at_zero Go.wp_at_succ

theorem kindU_blk (p : UInt64) (L : List (Int × UInt64)) : kindU (encBlk p L) = 3 := by simp [encBlk, kindU]
theorem vld_one : vldBlk [(1, 0)] = true := by
  unfold vldBlk
  rw [Bool.and_eq_true]
  refine ⟨by decide, okIds_yes ?_⟩
  intro i hi
  obtain rfl : i = 0 := by simp at hi; exact hi
  exact ⟨by decide, by decide, fun h => by omega⟩
theorem nb8_zero (i : Nat) (hi : i < 8) : nb8 0 i = 0 := by
  match i, hi with
  | 0, _ | 1, _ | 2, _ | 3, _ | 4, _ | 5, _ | 6, _ | 7, _ => rfl
theorem encBlock_one (g : Nat) (w : World) (hB : Blk w g 76 #[.int .i64 1, .int .u8 0, .int .u8 0, .int .u8 0, .int .u8 0, .int .u8 0, .int .u8 0, .int .u8 0, .int .u8 0]) :
    Calls Try.prog 22 #[.agg #[.int .u8 0, .int .u8 0, .int .u8 0, .int .u8 0, .int .u8 0, .int .u8 0, .int .u8 0, .int .u8 0, .slice (some ⟨g, 0, none⟩) 1 1]] w fun e w' => ∃ A' c', e = .returned (.tuple #[.slice A' 19 c', .int .i64 0]) ∧ SlB w' A' 19 c' (encBlk 0 [(1, 0)]) ∧ Ext w w' := by
  have z0 := nb8_zero 0 (by omega); have z1 := nb8_zero 1 (by omega); have z2 := nb8_zero 2 (by omega); have z3 := nb8_zero 3 (by omega)
  have z4 := nb8_zero 4 (by omega); have z5 := nb8_zero 5 (by omega); have z6 := nb8_zero 6 (by omega); have z7 := nb8_zero 7 (by omega)
  have e0 : blkC 0 (some ⟨g, 0, none⟩) 1 1 = #[.int .u8 0, .int .u8 0, .int .u8 0, .int .u8 0, .int .u8 0, .int .u8 0, .int .u8 0, .int .u8 0, .slice (some ⟨g, 0, none⟩) 1 1] := by
    unfold blkC; rw [z0, z1, z2, z3, z4, z5, z6, z7]
  have e1 : chc [(1, 0)] = [.int .i64 1, .int .u8 0, .int .u8 0, .int .u8 0, .int .u8 0, .int .u8 0, .int .u8 0, .int .u8 0, .int .u8 0] := by
    rw [chc_cons, chc_nil, List.append_nil, ← chA_toList]
    unfold chA; rw [z0, z1, z2, z3, z4, z5, z6, z7]
  have hS : SlC w (some ⟨g, 0, none⟩) 1 1 [(1, 0)] := ⟨rfl, Nat.le_refl _, by omega, by rw [e1]; exact Rd.of_blk hB⟩
  rw [← e0]
  refine (encBlock_yes 0 _ 1 1 [(1, 0)] w hS vld_one).mono fun e w' ⟨A', n', c', he, hs, hx⟩ => ?_
  have hn : n' = 19 := by rw [← hs.len, encBlk_length]; rfl
  subst hn
  exact ⟨A', c', he, hs, hx⟩
theorem str20 : (strV [2, 0]).toList = [2, 0] := by rw [ByteArray.toList_eq]; rfl
set_option maxRecDepth 100000 in
set_option maxHeartbeats 4000000 in
theorem awake24_any (w : World) : Calls Try.prog 16 #[] w fun e w' => e = .returned (.bool true) ∧ Ext w w' := by
  go_enter Try.func16, Try.ntmps16
  go_wp2_with fail
  refine (encPayload_empty _).mono ?_
  rintro e w1 ⟨A1, c1, rfl, hS1, he1⟩
  have HS1 := Lib.hid hS1
  have HE1 := Lib.hid he1
  clear hS1 he1
  go_wp2_with fail
  refine (encBlock_one w1.heap.size _ (Blk.new w1 _ _)).mono ?_
  rintro e w2 ⟨A2, c2, rfl, hS2, he2⟩
  have HS2 := Lib.hid hS2
  have HE2 := Lib.hid (HE1.out.trans (((Ext.refl w1).alloc' _).trans he2))
  have HS12 := Lib.hid (HS1.out.ext (((Ext.refl w1).alloc' _).trans he2))
  clear hS2 he2 HE1 HS1
  go_wp2_with fail
  refine (encRecord_empty _).mono ?_
  rintro e w3 ⟨A3, c3, rfl, he3⟩
  have HE3 := Lib.hid (HE2.out.trans he3)
  have HS13 := Lib.hid (HS12.out.ext he3)
  have HS23 := Lib.hid (HS2.out.ext he3)
  clear he3 HE2 HS12 HS2
  go_wp2_with fail
  refine (decPayload_other A2 19 c2 _ _ HS23.out (by rw [kindU_blk]; decide)).mono ?_
  rintro e w4 ⟨rfl, he4⟩
  have HE4 := Lib.hid (HE3.out.trans (he4.trans ((Ext.refl w4).alloc' (.cells #[.slice none 0 0] 31))))
  have HS14 := Lib.hid (HS13.out.ext (he4.trans ((Ext.refl w4).alloc' (.cells #[.slice none 0 0] 31))))
  clear he4 HE3 HS13 HS23
  go_wp2_with fail
  refine (encGenesis_empty _).mono ?_
  rintro e w5 ⟨rfl, he5⟩
  have HE5 := Lib.hid (HE4.out.trans he5)
  have HS15 := Lib.hid (HS14.out.ext he5)
  have k1 := run_strV HS15.out
  have HK1 := Lib.hid (show Calls Try.prog 12 #[.slice A1 2 c1] w5 (fun e w' => e = .returned (.int .i64 2) ∧ w5 = w') from kind_any A1 2 c1 [2, 0] w5 HS15.out)
  have HK2 := Lib.hid (show Calls Try.prog 12 #[.slice none 0 0] w5 (fun e w' => e = .returned (.int .i64 0) ∧ w5 = w') from kind_any none 0 0 [] w5 (SlB.nil w5))
  have HN := Lib.hid (fun (W : World) (h : Ext w5 W) => name_any A1 2 c1 [2, 0] W (HS15.out.ext h) (by omega))
  have HM := Lib.hid (fun (W : World) (h : Ext w5 W) => refSum_any A1 2 c1 [2, 0] W (HS15.out.ext h) (by omega))
  have hs2 := str20
  clear he5 HE4 HS14
  go_wp2_with fail
  refine HK1.out.mono ?_
  rintro e w6 ⟨rfl, rfl⟩
  go_wp2_with fail
  refine HK2.out.mono ?_
  rintro e w6 ⟨rfl, rfl⟩
  go_wp2_with fail
  refine (HN.out _ (Ext.refl _)).mono ?_
  rintro e w6 ⟨rfl, he6⟩
  have HX6 := Lib.hid he6
  clear he6
  go_wp2_with fail
  refine (HM.out _ HX6.out).mono ?_
  rintro e w7 ⟨rfl, he7⟩
  have hq := run_eqSame (sumU [2, 0])
  have HX7 := Lib.hid (HE5.out.trans (HX6.out.trans he7))
  clear he7
  go_wp2_with fail
  go_ret
  exact ⟨rfl, HX7.out⟩
set_option maxRecDepth 100000 in
set_option maxHeartbeats 1000000 in
theorem blockNames_any (A : Option Addr) (n c : Nat) (l : List UInt8) (w : World) (h : SlB w A n c l) (hm : n ≤ 140737488351232) :
    Calls Try.prog 3 #[.slice A n c] w fun e w' => e = .returned (.bool true) ∧ Ext w w' := by
  have HK := Lib.hid (kind_any A n c l w h)
  have HR := Lib.hid (refKind_any A n c l w h)
  have HN := Lib.hid (name_any A n c l w h (by omega))
  have HT := Lib.hid (fun (W : World) (hW : Ext w W) => textName_any A n c l W (h.ext hW) (by omega))
  obtain ⟨x, hx⟩ : ∃ x, kindU l = x := ⟨_, rfl⟩
  obtain ⟨s, hs⟩ : ∃ s, sumU l = s := ⟨_, rfl⟩
  rw [hx] at HK HR
  rw [hs] at HN
  simp only [hs] at HT
  have hq := run_eqSame s
  clear h hx hs
  go_enter Try.func3, Try.ntmps3
  go_wp2_with fail
  refine HK.out.mono ?_
  rintro e w1 ⟨rfl, rfl⟩
  go_wp2_with fail
  refine HR.out.mono ?_
  rintro e w1 ⟨rfl, rfl⟩
  go_wp2_with fail
  refine HN.out.mono ?_
  rintro e w1 ⟨rfl, he1⟩
  go_wp2_with fail
  refine (HT.out _ he1).mono ?_
  rintro e w2 ⟨rfl, he2⟩
  go_wp2_with fail
  refine (awake24_any _).mono ?_
  rintro e w3 ⟨rfl, he3⟩
  go_wp2_with fail
  go_ret
  exact ⟨rfl, he1.trans (he2.trans he3)⟩
end Go.Proofs.Ytfklmcfanhnfpaa
