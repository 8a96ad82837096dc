/- The law's own check. -/
import Derived.Test.YtcfmlgbocdjabaaGreatTg2
import Derived.Test.YtcfmlgbocdjabaaGreatTe1
import Derived.Test.YtcfmlgbocdjabaaGreatTx6
import Derived.Test.YtcfmlgbocdjabaaGreatTx10
import Derived.Test.YtcfmlgbocdjabaaGreatTd1
namespace Go.Proofs.YtcfmlgbocdjabaaGreat
open Go.RowKit
set_option linter.unusedVariables false
set_option linter.unusedSimpArgs false
attribute [local go_sem ↓] Go.wp_at_zero Go.wp_at_succ

theorem flat8 (ns : List UInt64) : (ns.flatMap nmb).length = ns.length * 8 := by
  induction ns with
  | nil => rfl
  | cons a r ih => rw [List.flatMap_cons, List.length_append, ih, nmb_length, List.length_cons]; omega
theorem oneSig_length (seed m : UInt64) : (oneSig seed m).length = 18 := by simp [oneSig]
theorem sig1_length (seed : UInt64) (leaf : Nat) (m : UInt64) (h : leaf < 32) : (sig1 seed leaf m).length = 186 := by
  have h1 := dep32 leaf h
  simp only [sig1, List.length_append, flat8, oneSig_length, pathU_length, leavesU_length, h1, List.length_cons, List.length_nil]
def opOne : OpR := ⟨1, 2, 258, 0, 0, 0, 0, none, 0, 0, [], none, 0, 0, []⟩
theorem opOne_cells : opA opOne = #[.int .i64 1, .int .i64 2, .int .i64 258, .int .i64 0, .int .i64 0, .int .u8 0, .int .u8 0, .int .u8 0, .int .u8 0, .int .u8 0, .int .u8 0, .int .u8 0, .int .u8 0, .int .u8 0, .int .u8 0, .int .u8 0, .int .u8 0, .int .u8 0, .int .u8 0, .int .u8 0, .int .u8 0, .slice none 0 0, .slice none 0 0] := by
  unfold opA opOne; simp only [nb8_nil 0 (by omega), nb8_nil 1 (by omega), nb8_nil 2 (by omega), nb8_nil 3 (by omega), nb8_nil 4 (by omega), nb8_nil 5 (by omega), nb8_nil 6 (by omega), nb8_nil 7 (by omega)]
theorem vOne : vTx 1 0 [opOne] = true := by decide
theorem vNone : vTx 0 0 [] = false := by decide
def seedOne : UInt64 := 72057594037927936
theorem seedOne_cells : nmc seedOne = #[.int .u8 1, .int .u8 0, .int .u8 0, .int .u8 0, .int .u8 0, .int .u8 0, .int .u8 0, .int .u8 0] := by kernel_rfl
theorem str11 : (strV [1, 0, 1, 1, 2, 0, 0, 0, 0, 1, 2]).toList = [1, 0, 1, 1, 2, 0, 0, 0, 0, 1, 2] := by rw [ByteArray.toList_eq]; rfl
theorem enc11 : encTx 1 0 [opOne] = [1, 0, 1, 1, 2, 0, 0, 0, 0, 1, 2] := by decide
theorem run_eqIn (a b : UInt64) (w : World) : (Op.equalIn 10000 23 (.agg (nmc a)) (.agg (nmc b))).run Tryz.prog w = .ok (decide (a = b)) w := by
  have h := run_eqN a b w
  rw [run_eql_struct] at h
  generalize (Op.equalIn 10000 23 (.agg (nmc a)) (.agg (nmc b))).run Tryz.prog w = r at *
  cases r with
  | ok v w' => simp [Result.andThen] at h ⊢; obtain ⟨h1, h2⟩ := h; exact ⟨h1, h2⟩
  | _ => simp [Result.andThen] at h
theorem txNm_none : txNm 0 0 [] = 0 := by unfold txNm; rw [vNone]; rfl
theorem slO_one (w : World) (g : Nat) (t : TypeId) (h : Blk w g t (opA opOne)) : SlO w (some ⟨g, 0, none⟩) 1 1 [opOne] :=
  ⟨rfl, Nat.le_refl _, by omega, by
    have e : ocs [opOne] = (opA opOne).toList := by rw [ocs_cons, ocs_nil, List.append_nil]; rfl
    rw [e]; exact Rd.of_blk h, fun R hR => by
    rw [List.mem_singleton] at hR
    subst hR
    exact ⟨SlB.nil w, SlB.nil w⟩⟩
theorem vOneV : vTxV 1 0 [opOne.v] = true := by decide
/-- what is known of the signed example -/
theorem one_facts {T : TxR} {w : World} {sg : List UInt8} (h : T.ok w) (hv : T.v = (1, 0, [opOne].map OpR.v, sg)) (hs : sg.length = 186) : vST T.ac T.sq T.L T.m = true ∧ (encST T.ac T.sq T.L T.sig).length = 199 ∧ (encST T.ac T.sq T.L T.sig).take 11 = [1, 0, 1, 1, 2, 0, 0, 0, 0, 1, 2] := by
  have hl := lens_of h
  unfold TxR.v at hv
  injection hv with h1 hv
  injection hv with h2 hv
  injection hv with h3 h4
  have h5 : T.sig.length = T.m := hl.2
  have he : encTx T.ac T.sq T.L = [1, 0, 1, 1, 2, 0, 0, 0, 0, 1, 2] := by
    rw [← enc11, h1, h2]
    have hn := congrArg List.length h3
    simp only [List.length_map, List.length_cons, List.length_nil] at hn
    unfold encTx
    rw [encOps_v h3, hn]
    rfl
  refine ⟨?_, ?_, ?_⟩
  · unfold vST
    rw [vTx_v (fun R hR => vOp_v (hl.1 R hR).1 (hl.1 R hR).2), h1, h2, h3]
    rw [show ([opOne].map OpR.v) = [opOne.v] from rfl, vOneV, decide_eq_true (by rw [← h5, h4]; exact hs)]
    rfl
  · unfold encST
    rw [he, List.length_append, blob_length, h4, hs]
    rfl
  · unfold encST
    rw [he]
    rfl
set_option maxRecDepth 100000 in
set_option maxHeartbeats 4000000 in
theorem awake20_any (w : World) : Calls Tryz.prog 7 #[] w fun e w' => e = .returned (.bool true) ∧ Ext w w' := by
  obtain ⟨W1, hW1⟩ : ∃ W1, (w.alloc (.cells (opA opOne) 50)).alloc (.cells (txA 1 0 (some ⟨w.heap.size, 0, none⟩) 1 1) 26) = W1 := ⟨_, rfl⟩
  have HE1 := Lib.hid (show Ext w W1 by rw [← hW1]; exact ((Ext.refl w).alloc' _).alloc' _)
  have HS1 := Lib.hid (slO_one W1 w.heap.size 50 (by rw [← hW1]; exact (Blk.new w _ _).alloc _))
  have HB1 := Lib.hid (show Blk W1 (w.heap.size + 1) 26 (txA 1 0 (some ⟨w.heap.size, 0, none⟩) 1 1) by rw [← hW1]; exact Blk.newAt _ _ _ _ (by simp))
  have HSG := Lib.hid (show Calls Tryz.prog 8 #[.agg #[.int .u8 1, .int .u8 0, .int .u8 0, .int .u8 0, .int .u8 0, .int .u8 0, .int .u8 0, .int .u8 0], .agg (txA 1 0 (some ⟨w.heap.size, 0, none⟩) 1 1)] W1 (SgOut W1 seedOne 1 0 [opOne]) from by rw [← seedOne_cells]; exact txSign_any seedOne 1 0 _ 1 1 [opOne] W1 HS1.out)
  rw [opOne_cells] at hW1
  have q0 : W1.cell? ⟨w.heap.size + 1, 0, none⟩ = some (.int .i64 1) := HB1.out.cell 0
  have q1 : W1.cell? ⟨w.heap.size + 1, 1, none⟩ = some (.int .i64 0) := HB1.out.cell 1
  have q2 : W1.cell? ⟨w.heap.size + 1, 2, none⟩ = some (.slice (some ⟨w.heap.size, 0, none⟩) 1 1) := HB1.out.cell 2
  go_enter Tryz.func7, Tryz.ntmps7
  go_wp2_with fail
  refine HSG.out.mono ?_
  rintro e w2 ⟨he2, h2⟩
  rcases h2 with ⟨h2, _⟩ | ⟨_, T, rfl, hT, hTv⟩
  · rw [vOne] at h2; cases h2
  have HT := Lib.hid hT
  have HTV := Lib.hid hTv
  have HE2 := Lib.hid (HE1.out.trans he2)
  have HB2 := Lib.hid (HB1.out.ext he2)
  have HS2 := Lib.hid (HS1.out.ext he2)
  clear hT hTv he2 hW1 q0 q1 q2 HSG HE1 HB1 HS1
  have hnew := new_tx w2 T
  go_wp2_with (first | (with_reducible refine wpList_newT rfl (.tmp 2) (.tmp 17) rfl _ rfl T rfl rfl ?_) | (with_reducible refine wpList_loadT rfl (.tmp 2) rfl w2.heap.size 0 rfl T hnew ?_))
  obtain ⟨f1, f2, f3⟩ := one_facts HT.out HTV.out (sig1_length _ _ _ (by decide))
  have HF3 := Lib.hid f3
  have HVT := Lib.hid f1
  have HLE := Lib.hid f2
  have hE3 := (Ext.refl w2).alloc' (.cells (tA T) 31)
  have HT3 := Lib.hid (HT.out.ext hE3)
  have HB3 := Lib.hid (HB2.out.ext hE3)
  have HS3 := Lib.hid (HS2.out.ext hE3)
  have HE3 := Lib.hid (HE2.out.trans hE3)
  have HC3 := Lib.hid (Blk.new w2 31 (tA T))
  refine (encodeST_yes T.ac T.sq T.A T.n T.c T.S T.m T.d T.L T.sig _ HT3.out.ops HT3.out.sig f1).mono ?_
  clear f1 f2 f3 hE3 hnew HT HTV HE2 HB2 HS2
  rintro e w4 ⟨A4, n4, c4, rfl, hs4, _, he4⟩
  obtain rfl : n4 = 199 := by rw [← hs4.len]; exact HLE.out
  have HT4 := Lib.hid (HT3.out.ext he4)
  have HB4 := Lib.hid (HB3.out.ext he4)
  have HS4 := Lib.hid (HS3.out.ext he4)
  have HE4 := Lib.hid (HE3.out.trans he4)
  have HC4 := Lib.hid (HC3.out.ext he4)
  have HL4 := Lib.hid hs4
  have hcap4 := hs4.le
  have hcap5 := hs4.cap
  clear he4 hs4 HT3 HB3 HS3 HE3 HC3
  go_wp2_with fail
  refine (decodeTx_any A4 199 c4 _ _ HL4.out (by omega)).mono ?_
  rintro e w5 ⟨he5, h5⟩
  have hde : decTx (encST T.ac T.sq T.L T.sig) = some T.v := decTx_enc T (lens_of HT4.out).1 (lens_of HT4.out).2 HVT.out
  rw [hde] at h5
  rcases h5 with ⟨h5, _⟩ | ⟨U, hU, rfl, hUo⟩
  · cases h5
  have hE6 := he5.trans ((Ext.refl w5).alloc' (.cells (tA U) 31))
  have HEQ := Lib.hid (show eqT U T = true from (eqT_iff U T).2 (by injection hU with hU; exact hU.symm))
  have HU6 := Lib.hid (hUo.ok.ext ((Ext.refl w5).alloc' (.cells (tA U) 31)))
  have HT6 := Lib.hid (HT4.out.ext hE6)
  have HB6 := Lib.hid (HB4.out.ext hE6)
  have HS6 := Lib.hid (HS4.out.ext hE6)
  have HE6 := Lib.hid (HE4.out.trans hE6)
  have HC6 := Lib.hid (HC4.out.ext hE6)
  have HL6 := Lib.hid (HL4.out.ext hE6)
  have HD6 := Lib.hid (Blk.new w5 31 (tA U))
  clear he5 hE6 hde hU hUo HT4 HB4 HS4 HE4 HC4 HL4
  go_wp2_with (first | (with_reducible refine wpList_newT rfl (.tmp 6) (.tmp 27) rfl _ rfl U rfl rfl ?_))
  refine (decodeTx_any none 0 0 [] _ (SlB.nil _) (by omega)).mono ?_
  rintro e w7 ⟨he7, h7⟩
  rw [show decTx [] = none from by decide] at h7
  obtain rfl : e = .returned (.tuple #[.agg zero4, .int .i64 4]) := by
    rcases h7 with ⟨_, h⟩ | ⟨U', hU', _⟩
    · exact h
    · cases hU'
  clear h7
  have hE8 := he7.trans ((Ext.refl w7).alloc' (.cells (tA txR0) 31))
  have HU8 := Lib.hid (HU6.out.ext hE8)
  have HT8 := Lib.hid (HT6.out.ext hE8)
  have HB8 := Lib.hid (HB6.out.ext hE8)
  have HS8 := Lib.hid (HS6.out.ext hE8)
  have HE8 := Lib.hid (HE6.out.trans hE8)
  have HC8 := Lib.hid (HC6.out.ext hE8)
  have HL8 := Lib.hid (HL6.out.ext hE8)
  have HD8 := Lib.hid (HD6.out.ext hE8)
  have k1 := run_strV (HL8.out.upto (show 11 ≤ 199 by omega))
  rw [HF3.out] at k1
  have k2 := str11
  obtain ⟨a0, a1, a2, a3⟩ := st_facts HC8.out
  obtain ⟨b0, b1, b2, b3⟩ := st_facts HD8.out
  clear he7 hE8 HU6 HT6 HB6 HS6 HE6 HC6 HL6 HD6
  go_wp2_with (first | (with_reducible refine wpList_newT rfl (.tmp 8) (.tmp 31) rfl _ rfl txR0 rfl rfl ?_))
  generalize w7.alloc (.cells (tA txR0) 31) = w8 at *
  refine (equalP_any U T w8 HU8.out HT8.out).mono ?_
  rintro e w9 ⟨rfl, he9⟩
  rw [HEQ.out]
  have HE9 := Lib.hid (HE8.out.trans he9)
  have HB9 := Lib.hid (HB8.out.ext he9)
  have HS9 := Lib.hid (HS8.out.ext he9)
  have q0 : w9.cell? ⟨w.heap.size + 1, 0, none⟩ = some (.int .i64 1) := HB9.out.cell 0
  have q1 : w9.cell? ⟨w.heap.size + 1, 1, none⟩ = some (.int .i64 0) := HB9.out.cell 1
  have q2 : w9.cell? ⟨w.heap.size + 1, 2, none⟩ = some (.slice (some ⟨w.heap.size, 0, none⟩) 1 1) := HB9.out.cell 2
  clear he9 HE8 HB8 HS8 HU8 HT8 HC8 HD8 HL8 a0 a1 a2 a3 b0 b1 b2 b3 k1 k2
  go_wp2_with fail
  refine (validate_any 1 0 (some ⟨w.heap.size, 0, none⟩) 1 1 [opOne] w9 HS9.out).mono ?_
  rintro e w10 ⟨rfl, he10⟩
  rw [vOne]
  have HE10 := Lib.hid (HE9.out.trans he10)
  clear he10 q0 q1 q2 HB9 HS9 HE9
  go_wp2_with fail
  refine (validate_any 0 0 none 0 0 [] w10 (SlO.nil _)).mono ?_
  rintro e w11 ⟨rfl, he11⟩
  rw [vNone]
  have HE11 := Lib.hid (HE10.out.trans he11)
  clear he11 HE10
  go_wp2_with fail
  refine (txName_any 0 0 none 0 0 [] w11 (SlO.nil _)).mono ?_
  rintro e w12 ⟨rfl, he12⟩
  rw [txNm_none]
  have HE12 := Lib.hid (HE11.out.trans he12)
  have hz : (Op.equalIn 10000 23 (.agg (nmc 0)) (.agg #[.int .u8 0, .int .u8 0, .int .u8 0, .int .u8 0, .int .u8 0, .int .u8 0, .int .u8 0, .int .u8 0])).run Tryz.prog w12 = .ok true w12 := by rw [← nmc_zero_lit]; exact run_eqIn 0 0 w12
  clear he12 HE11
  go_wp2_with fail
  go_ret
  exact ⟨rfl, HE12.out⟩
end Go.Proofs.YtcfmlgbocdjabaaGreat
