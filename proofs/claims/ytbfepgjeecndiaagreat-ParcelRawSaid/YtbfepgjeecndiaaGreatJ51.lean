/- The law's sanity check: the parcel of a small view. -/
import Derived.Test.YtbfepgjeecndiaaGreatJ46
import Derived.Test.YtbfepgjeecndiaaGreatJ48
import Derived.Test.YtbfepgjeecndiaaGreatJ50
namespace Go.Proofs.YtbfepgjeecndiaaGreat
set_option maxRecDepth 100000
set_option maxHeartbeats 16000000
open Go.RowKit
set_option linter.unusedVariables false
set_option linter.unusedSimpArgs false
attribute [local go_sem ↓] Go.wp_at_zero Go.wp_at_succ
def awX (h : Nat) : List TeR := [⟨some ⟨h, 0, none⟩, 1, 1, [1]⟩, ⟨some ⟨h + 1, 0, none⟩, 1, 1, [2]⟩]
theorem awX_n (h : Nat) : ∀ T, T ∈ awX h → T.n ≤ 1 := fun T hT => by
 rcases List.mem_cons.1 hT with rfl | hT
 ·exact Nat.le_refl _
 ·rw [List.mem_singleton.1 hT]; exact Nat.le_refl _
theorem awake37_any (w : World) : Calls Tryz.prog 8 #[] w fun e w' => e = .returned (.bool true) ∧ Ext w w' := by
 obtain ⟨W1, hW1⟩ : ∃ W1, (((w.alloc (.cells #[.int .u8 1] 5)).alloc (.cells #[.int .u8 2] 5)).alloc (.cells #[.slice (some ⟨w.heap.size, 0, none⟩) 1 1, .slice (some ⟨w.heap.size + 1, 0, none⟩) 1 1] 28)).alloc (.cells (vwA none 0 0 (some ⟨w.heap.size + 1 + 1, 0, none⟩) 2 2) 25) = W1 := ⟨_, rfl⟩
 have HE1 := Lib.hid (show Ext w W1 from by rw [← hW1]; exact ((((Ext.refl w).alloc' _).alloc' _).alloc' _).alloc' _)
 have HBV := Lib.hid (show Blk W1 (w.heap.size + 1 + 1 + 1) 25 (vwA none 0 0 (some ⟨w.heap.size + 1 + 1, 0, none⟩) 2 2) from by rw [← hW1]; exact Blk.newAt _ _ _ _ (by simp))
 have HB1 := Lib.hid (show Blk W1 w.heap.size 5 #[.int .u8 1] from by rw [← hW1]; exact (((Blk.new w _ _).alloc _).alloc _).alloc _)
 have HB2 := Lib.hid (show Blk W1 (w.heap.size + 1) 5 #[.int .u8 2] from by rw [← hW1]; exact ((Blk.newAt (w.alloc _) _ _ (w.heap.size + 1) (by simp)).alloc _).alloc _)
 have HBX := Lib.hid (show Blk W1 (w.heap.size + 1 + 1) 28 #[.slice (some ⟨w.heap.size, 0, none⟩) 1 1, .slice (some ⟨w.heap.size + 1, 0, none⟩) 1 1] from by rw [← hW1]; exact (Blk.newAt ((w.alloc _).alloc _) _ _ (w.heap.size + 1 + 1) (by simp)).alloc _)
 have HX := Lib.hid (show SlG W1 (some ⟨w.heap.size + 1 + 1, 0, none⟩) 2 2 (awX w.heap.size) from by
  refine ⟨rfl, Nat.le_refl _, by omega, Rd.of_blk HBX.out, fun T hT => ?_⟩
  rcases List.mem_cons.1 hT with rfl | hT
  ·exact ⟨rfl, Nat.le_refl _, by show 1 ≤ 9223372036854775807; omega, Rd.of_blk HB1.out⟩
  ·rw [List.mem_singleton.1 hT]
   exact ⟨rfl, Nat.le_refl _, by show 1 ≤ 9223372036854775807; omega, Rd.of_blk HB2.out⟩)
 have hn9 := awX_n w.heap.size
 have HXV := Lib.hid (show (awX w.heap.size).map TeR.l = [[1], [2]] from rfl)
 have HPE := Lib.hid (pcEnc_any none 0 0 [] (some ⟨w.heap.size + 1 + 1, 0, none⟩) 2 2 (awX w.heap.size) W1 (SlG.nil _) HX.out)
 have HN9 := Lib.hid hn9
 clear hn9
 obtain ⟨b0, b1⟩ := vw_facts HBV.out
 go_enter Tryz.func8, Tryz.ntmps8
 go_wp2_with fail
 refine HPE.out.mono ?_
 rintro e w2 ⟨hc2, he2⟩
 have hz0 : pcE [] (awX w.heap.size) = 0 := by
  rw [pcE_V (fun S hS => by cases hS) (fun T hT => SlB.len (HX.out.ok T hT)), HXV.out]; exact aw_err
 have hen : encPc [] (awX w.heap.size) = encPcV [] [[1], [2]] := by rw [encPc_V, HXV.out]; rfl
 rcases hc2 with ⟨hne, -⟩ | ⟨-, A2, n2, c2, rfl, ho2, hn2⟩
 ·exact absurd hz0 hne
 rw [hen] at ho2
 obtain rfl : n2 = 22 := by rw [← ho2.sl.len]; exact aw_len
 have HE2 := Lib.hid he2
 have HO2 := Lib.hid ho2.sl
 have HPD := Lib.hid (pcDec2_any A2 22 c2 _ w2 ho2.sl (by omega))
 clear hz0 hen ho2 he2 hn2 HPE b0 b1 hW1
 go_wp2_with fail
 refine HPD.out.mono ?_
 rintro e w3 ⟨A3, n3, c3, L3, B3, m3, d3, X3, z, rfl, hv3, he3, hc3⟩
 rw [aw_dec] at hc3
 rcases hc3 with ⟨-, hc3⟩ | ⟨rfl, hc3, -⟩
 ·cases hc3
 obtain rfl : m3 = 2 := by
  have h1 := hv3.sl2.len
  injection hc3 with hc3; injection hc3 with _ hc3
  have h2 := congrArg List.length hc3
  rw [List.length_map, h1] at h2; exact h2.symm
 have HE3 := Lib.hid (HE2.out.trans he3)
 clear he3 hv3 hc3 HPD
 obtain ⟨g4, hg4⟩ : ∃ q, w3.heap.size = q := ⟨_, rfl⟩
 obtain ⟨W4, hW4⟩ : ∃ W, w3.alloc (.cells (vwA A3 n3 c3 B3 2 d3) 25) = W := ⟨_, rfl⟩
 have HB4 := Lib.hid (show Blk W4 g4 25 (vwA A3 n3 c3 B3 2 d3) from by rw [← hW4, ← hg4]; exact Blk.new _ _ _)
 have HE4 := Lib.hid (show Ext W1 W4 from by rw [← hW4]; exact HE3.out.alloc' _)
 have HPD := Lib.hid (pcDec_any none 0 0 [] W4 ⟨rfl, Nat.le_refl _, by omega, .nil⟩ (by omega))
 go_wp2_with fail
 refine HPD.out.mono ?_
 rintro e w5 ⟨A5, n5, c5, L5, B5, m5, d5, X5, z5, rfl, -, he5, hc5⟩
 obtain rfl : z5 = 2 := by
  rcases hc5 with ⟨h, -⟩ | ⟨-, h, -⟩ | ⟨-, h, -⟩ | ⟨-, h, -⟩ | ⟨-, h, -⟩
  ·exact h
  all_goals exact absurd h (by decide)
 try rw [hW4]
 try rw [hg4]
 obtain ⟨W6, hW6⟩ : ∃ W, w5.alloc (.cells (vwA A5 n5 c5 B5 m5 d5) 25) = W := ⟨_, rfl⟩
 have HE6 := Lib.hid (show Ext W1 W6 from by rw [← hW6]; exact (HE4.out.trans he5).alloc' _)
 have HB4' := Lib.hid (show Blk W6 g4 25 (vwA A3 n3 c3 B3 2 d3) from by rw [← hW6]; exact (HB4.out.ext he5).alloc _)
 have HSP := Lib.hid (split_any none 0 0 [] (some ⟨w.heap.size + 1 + 1, 0, none⟩) 2 2 (awX w.heap.size) W6 (SlG.nil _) (HX.out.ext HE6.out) (by omega) (by omega) (fun S hS => by cases hS) (fun T hT => by have := HN9.out T hT; omega))
 obtain ⟨b0, b1⟩ := vw_facts (HBV.out.ext HE6.out)
 clear hW4 HE3 HB4 HPD he5 hc5 HE4
 go_wp2_with fail
 refine HSP.out.mono ?_
 rintro e w7 ⟨A7, n7, c7, D, he, hr7, hD, hDn, he7⟩
 rw [HXV.out, List.map_nil, aw_split] at he hD
 subst he
 obtain rfl : n7 = 1 := by
  have h1 := hr7.len
  have h2 := congrArg List.length hD
  rw [List.length_map, h1] at h2; exact h2
 have HE67 := Lib.hid he7
 have HRW := Lib.hid hr7
 have HD := Lib.hid hD
 have HDn := Lib.hid hDn
 have HS6 := Lib.hid he7.size
 clear hr7 hD hDn he7 HSP b0 b1 hW6
 go_wp2_with (at_builtin; go_must (refine wpList_appGG teE rfl (.tmp 37) (.tmp 38) rfl W6.heap.size A7 1 c7 (gcs D) rfl ?r0 (some ⟨w7.heap.size, 0, none⟩) 1 1 [.slice none 0 0] rfl ?r1 (by rfl) (fun u hu => by rw [List.mem_singleton.1 hu]; rfl) (by omega) (by omega) ?b1 ?_))
 case r0 => exact (HRW.out.ext ((Ext.refl w7).alloc' _)).own
 case r1 => exact Rd.of_blk (Blk.new w7 28 #[.slice none 0 0])
 case b1 => have := HS6.out; simp; omega
 intro A8 c8 w8 ho8 hg8
 have HRA := Lib.hid (HRW.out.ext ((Ext.refl w7).alloc' (.cells #[.slice none 0 0] 28)))
 have HEA := Lib.hid (HE67.out.alloc' (.cells #[.slice none 0 0] 28))
 have HE68 := Lib.hid (Below.grown HEA.out hg8 HEA.out.size (fun k hk => (World.ownsRow.lt HRA.out.own k hk).1))
 have HR8 := Lib.hid (HRA.out.push (T := ⟨none, 0, 0, []⟩) (World.ownsRow_nil _ _ _ _) hg8 ho8)
 have HJN := Lib.hid (join_any A8 2 c8 (D ++ [⟨none, 0, 0, []⟩]) w8 HR8.out.sl (by omega) (fun T hT => by
  rcases List.mem_append.1 hT with hT | hT
  ·have := HDn.out T hT; omega
  ·rw [List.mem_singleton.1 hT]; decide))
 have HJV := Lib.hid (show joV ((D ++ [(⟨none, 0, 0, []⟩ : TeR)]).map TeR.l) = (([], [[1], [2]]), 1) from by rw [List.map_append, HD.out]; exact aw_join)
 clear ho8 hg8 HRA HEA HRW HE67 HS6
 go_wp2_with fail
 refine HJN.out.mono ?_
 rintro e w9 ⟨A9, n9, c9, L9, B9, m9, d9, X9, he, hv9, -, hX9, he9⟩
 rw [HJV.out] at he hX9
 subst he
 obtain rfl : m9 = 2 := by
  have h1 := hv9.sl2.len
  have h2 := congrArg List.length hX9
  rw [List.length_map, h1] at h2; rw [h2]; exact congrArg List.length aw_canon
 obtain ⟨g10, hg10⟩ : ∃ q, w9.heap.size = q := ⟨_, rfl⟩
 obtain ⟨W10, hW10⟩ : ∃ W, w9.alloc (.cells (vwA A9 n9 c9 B9 2 d9) 25) = W := ⟨_, rfl⟩
 have HB10 := Lib.hid (show Blk W10 g10 25 (vwA A9 n9 c9 B9 2 d9) from by rw [← hW10, ← hg10]; exact Blk.new _ _ _)
 have HE10 := Lib.hid (show Ext W6 W10 from by rw [← hW10]; exact (Ext.trans HE68.out he9).alloc' _)
 obtain ⟨q, hq⟩ : ∃ q, W10.heap.size = q := ⟨_, rfl⟩
 obtain ⟨W12, hW12⟩ : ∃ W, (W10.alloc (.cells #[.int .u8 1] 5)).alloc (.cells #[.slice (some ⟨q, 0, none⟩) 1 1] 28) = W := ⟨_, rfl⟩
 have HE12 := Lib.hid (show Ext W10 W12 from by rw [← hW12]; exact ((Ext.refl _).alloc' _).alloc' _)
 have HX1 := Lib.hid (show SlG W12 (some ⟨q + 1, 0, none⟩) 1 1 [(⟨some ⟨q, 0, none⟩, 1, 1, [1]⟩ : TeR)] from by
  have h1 : Blk W12 q 5 #[.int .u8 1] := by rw [← hW12]; exact (Blk.newAt W10 _ _ _ hq).alloc _
  have h2 : Blk W12 (q + 1) 28 #[.slice (some ⟨q, 0, none⟩) 1 1] := by rw [← hW12]; exact Blk.newAt _ _ _ _ (by rw [← hq]; simp)
  refine ⟨rfl, Nat.le_refl _, by omega, Rd.of_blk h2, fun T hT => ?_⟩
  rw [List.mem_singleton.1 hT]
  exact ⟨rfl, Nat.le_refl _, by show 1 ≤ 9223372036854775807; omega, Rd.of_blk h1⟩)
 have HEM := Lib.hid (HE6.out.trans (HE10.out.trans HE12.out))
 have HMI := Lib.hid (missing_any none 0 0 [] (some ⟨q + 1, 0, none⟩) 1 1 [(⟨some ⟨q, 0, none⟩, 1, 1, [1]⟩ : TeR)] none 0 0 [] (some ⟨w.heap.size + 1 + 1, 0, none⟩) 2 2 (awX w.heap.size) W12 (SlG.nil _) HX1.out (SlG.nil _) (HX.out.ext HEM.out) (by omega) (by omega) (by omega) (by omega) (fun T hT => by rw [List.mem_singleton.1 hT]; show 1 ≤ 140737488355328; omega) (fun S hS => by cases hS) (fun T hT => by have := HN9.out T hT; omega))
 obtain ⟨b0, b1⟩ := vw_facts (HBV.out.ext HEM.out)
 clear HJN hv9 hX9 he9 HE68 HR8
 go_wp2_with fail
 refine HMI.out.mono ?_
 rintro e w13 ⟨A13, n13, c13, L13, B13, m13, d13, X13, rfl, hv13, -, hX13, -, -, he13⟩
 rw [HXV.out] at hX13
 obtain rfl : m13 = 1 := by
  have h1 := hv13.sl2.len
  have h2 := congrArg List.length hX13
  rw [List.length_map, h1] at h2; rw [h2]; exact congrArg List.length aw_miss
 obtain ⟨g12, hg12⟩ : ∃ q, w13.heap.size = q := ⟨_, rfl⟩
 obtain ⟨W14, hW14⟩ : ∃ W, w13.alloc (.cells (vwA A13 n13 c13 B13 1 d13) 25) = W := ⟨_, rfl⟩
 have HB14 := Lib.hid (show Blk W14 g12 25 (vwA A13 n13 c13 B13 1 d13) from by rw [← hW14, ← hg12]; exact Blk.new _ _ _)
 have HE14 := Lib.hid (show Ext W12 W14 from by rw [← hW14]; exact he13.alloc' _)
 try rw [hW10]
 try rw [hg10]
 obtain ⟨x0, x1⟩ := vw_facts (HB4'.out.ext (HE10.out.trans (HE12.out.trans HE14.out)))
 obtain ⟨y0, y1⟩ := vw_facts (HB10.out.ext (HE12.out.trans HE14.out))
 obtain ⟨z0, z1⟩ := vw_facts HB14.out
 clear b0 b1 HMI hv13 hX13 he13
 go_wp2_with fail
 go_ret
 exact ⟨rfl, HE1.out.trans (HEM.out.trans HE14.out)⟩
end Go.Proofs.YtbfepgjeecndiaaGreat

/- The law ParcelRaw: its walk. -/
namespace Go.Proofs.YtbfepgjeecndiaaGreat
set_option maxRecDepth 100000
set_option maxHeartbeats 16000000
open Go.RowKit
set_option linter.unusedVariables false
set_option linter.unusedSimpArgs false
attribute [local go_sem ↓] Go.wp_at_zero Go.wp_at_succ
theorem parcelRaw_any (B : Option Addr) (m d : Nat) (X : List TeR) (w : World) (hX : SlG w B m d X) :
  Calls Tryz.prog 6 #[.slice B m d] w fun e w' => e = .returned (.bool true) ∧ Ext w w' := by
 by_cases h20 : (m : Int) > 20
 ·clear hX
  go_enter Tryz.func6, Tryz.ntmps6
  go_wp2_with fail
  refine (awake37_any _).mono ?_
  rintro e w9 ⟨rfl, he9⟩
  go_wp2_with fail
  go_ret
  exact ⟨rfl, he9⟩
 have HX := Lib.hid hX
 have HXA := Lib.hid (fun (h : 0 < m) => HX.out.at h)
 have hle2 := hX.le
 have hcap2 := hX.cap
 clear hX
 go_enter Tryz.func6, Tryz.ntmps6
 go_wp2_with fail
 go_loopw [3] (fun vi wr => ∃ k : Nat, vi = .int .i64 (k : Int) ∧ k ≤ m ∧ Hid (∀ j, j < k → (nthG X j).n ≤ 3000) ∧ w = wr) (fun i _ => m - (intOf i).toNat)
 case atStart => exact ⟨0, rfl, Nat.zero_le _, Lib.hid (fun j hj => by omega), rfl⟩
 case round =>
  obtain ⟨k, rfl, hk, HP, rfl⟩ := hrel
  by_cases hlt : k < m
  ·obtain ⟨b, o, rfl, hr0, hb⟩ := HXA.out (by omega)
   have i1 : (k : Int) < (m : Int) := by omega
   have hc1 := te_at hr0 (k := k) (by rw [HX.out.len]; exact hlt)
   have hok := HX.out.nth (k := k) hlt
   obtain ⟨T, hT⟩ : ∃ T, nthG X k = T := ⟨_, rfl⟩
   rw [hT] at hc1 hok
   have HT := Lib.hid hT
   clear hT hr0
   obtain ⟨Ta, Tn, Tc, Tl⟩ := T
   have hb1 := SlB.le hok
   have hb2 := SlB.cap hok
   by_cases h3 : (Tn : Int) > 3000
   ·clear hok
    go_wp2_with fail
    refine (awake37_any _).mono ?_
    rintro e w9 ⟨rfl, he9⟩
    go_wp2_with fail
    go_ret
    exact ⟨rfl, he9⟩
   ·have HP2 := Lib.hid (show ∀ j, j < k + 1 → (nthG X j).n ≤ 3000 from fun j hj => by
     rcases Nat.lt_or_ge j k with h | h
     ·exact HP.out j h
     ·obtain rfl : j = k := by omega
      rw [HT.out]; show Tn ≤ 3000; omega)
    clear hok
    go_wp2_with fail
    go_roundw
    case rel => exact ⟨k + 1, by go_num, hlt, HP2, by first | rfl | trivial⟩
    case measure => simp [intOf]; omega
  ·obtain rfl : k = m := by omega
   have i1 : ¬ (k : Int) < (k : Int) := by omega
   have HXB := Lib.hid (show ∀ T, T ∈ X → T.n ≤ 3000 from fun T hT => by
    obtain ⟨j, hj, rfl⟩ := List.getElem_of_mem hT
    rw [nthG_eq]
    exact HP.out j (by rw [← HX.out.len]; exact hj))
   clear HP HXA
   go_wp2_with fail
   refine (join_any B k d X w HX.out (by omega) (fun T hT => Nat.le_trans (HXB.out T hT) (by omega))).mono ?_
   rintro e w1 ⟨A1, n1, c1, L1, B1, m1, d1, X1, rfl, hv1, hL1, hX1, he1⟩
   obtain ⟨g2, hg2⟩ : ∃ q, w1.heap.size = q := ⟨_, rfl⟩
   obtain ⟨W2, hW2⟩ : ∃ W, w1.alloc (.cells (vwA A1 n1 c1 B1 m1 d1) 25) = W := ⟨_, rfl⟩
   have HN2 := Lib.hid (show Ext w1 W2 from by rw [← hW2]; exact (Ext.refl _).alloc' _)
   have HP2 := Lib.hid (show Blk W2 g2 25 (vwA A1 n1 c1 B1 m1 d1) from by rw [← hW2, ← hg2]; exact Blk.new _ _ _)
   obtain ⟨q, hq⟩ : ∃ q, (joV (X.map TeR.l)).2 = q := ⟨_, rfl⟩
   have HX2 := Lib.hid (HX.out.ext (he1.trans HN2.out))
   have HV2 := Lib.hid (hv1.ext HN2.out)
   have HE2 := Lib.hid (he1.trans HN2.out)
   have HQ := Lib.hid hq
   rw [hq]
   go_wp2_with (first | (with_reducible refine wpList_newVw rfl (.tmp 4) (.tmp 28) rfl _ rfl A1 n1 c1 B1 m1 d1 rfl rfl ?_))
   clear hW2 hg2 hq
   refine (rJoin_any B k d X W2 HX2.out (by omega) (fun T hT => Nat.le_trans (HXB.out T hT) (by omega))).mono ?_
   rintro e w3 ⟨A3, n3, c3, L3, B3, m3, d3, X3, rfl, hv3, hL3, hX3, he3⟩
   obtain ⟨g4, hg4⟩ : ∃ q, w3.heap.size = q := ⟨_, rfl⟩
   obtain ⟨W4, hW4⟩ : ∃ W, w3.alloc (.cells (vwA A3 n3 c3 B3 m3 d3) 25) = W := ⟨_, rfl⟩
   have HN4 := Lib.hid (show Ext w3 W4 from by rw [← hW4]; exact (Ext.refl _).alloc' _)
   have HP4 := Lib.hid (show Blk W4 g4 25 (vwA A3 n3 c3 B3 m3 d3) from by rw [← hW4, ← hg4]; exact Blk.new _ _ _)
   have HEQ := Lib.hid (eqVw_of (hL1.trans hL3.symm) (hX1.trans hX3.symm))
   have HV4 := Lib.hid (hv3.ext HN4.out)
   have HV24 := Lib.hid (HV2.out.ext (he3.trans HN4.out))
   have HP24 := Lib.hid (HP2.out.ext (he3.trans HN4.out))
   have HE4 := Lib.hid (HE2.out.trans (he3.trans HN4.out))
   rw [HQ.out]
   obtain ⟨x0, x1⟩ := vw_facts HP24.out
   obtain ⟨y0, y1⟩ := vw_facts HP4.out
   clear hL1 hX1 hL3 hX3 hv1 hv3 he1 he3
   go_wp2_with (first | (with_reducible refine wpList_newVw rfl (.tmp 6) (.tmp 33) rfl _ rfl A3 n3 c3 B3 m3 d3 rfl rfl ?_))
   clear hW4 hg4
   refine (sameView_any A1 n1 c1 L1 B1 m1 d1 X1 A3 n3 c3 L3 B3 m3 d3 X3 W4 HV24.out.sl1 HV24.out.sl2 HV4.out.sl1 HV4.out.sl2).mono ?_
   rw [HEQ.out]
   rintro e w5 ⟨rfl, he5⟩
   clear x0 x1 y0 y1
   go_wp2_with fail
   refine (awake37_any _).mono ?_
   rintro e w9 ⟨rfl, he9⟩
   go_wp2_with fail
   go_ret
   exact ⟨rfl, (HE4.out.trans he5).trans he9⟩
end Go.Proofs.YtbfepgjeecndiaaGreat
