/- The law ParcelSplit: its walk. -/
import Derived.Test.YtbfepgjeecndiaaGreatK11
import Derived.Test.YtbfepgjeecndiaaGreatK51
import Derived.Test.YtbfepgjeecndiaaGreatK52
namespace Go.Proofs.YtbfepgjeecndiaaGreat
set_option maxRecDepth 100000
set_option maxHeartbeats 16000000
open Go.RowKit
set_option linter.unusedVariables false
set_option linter.unusedSimpArgs false
attribute [local go_sem ↓] Go.wp_at_zero Go.wp_at_succ
theorem parcelSplit_any (A : Option Addr) (n c : Nat) (L : List SgR) (B : Option Addr) (m d : Nat) (X : List TeR) (w : World) (hS : SlG w A n c L) (hX : SlG w B m d X) (z1 : VwZ n m L X) :
  Calls Tryz.prog 5 #[.agg (vwA A n c B m d)] w fun e w' => e = .returned (.bool true) ∧ Ext w w' := by
 obtain ⟨W2, hW2⟩ : ∃ W2, w.alloc (.cells (vwA A n c B m d) 25) = W2 := ⟨_, rfl⟩
 have HEW := Lib.hid (show Ext w W2 from by rw [← hW2]; exact (Ext.refl w).alloc' _)
 have HPA := Lib.hid (show Blk W2 w.heap.size 25 (vwA A n c B m d) from by rw [← hW2]; exact Blk.new _ _ _)
 have HS := Lib.hid (hS.ext HEW.out)
 have HX := Lib.hid (hX.ext HEW.out)
 have HZS := Lib.hid (show ∀ S ∈ L, S.n ≤ 140737488355328 from fun S h => Nat.le_trans (z1.s S h) (by omega))
 have HZT := Lib.hid (show ∀ S ∈ X, S.n ≤ 140737488355328 from fun S h => Nat.le_trans (z1.t S h) (by omega))
 have hz1 := z1.n
 have hz2 := z1.m
 obtain ⟨c0, c1⟩ := vw_facts HPA.out
 clear hS hX z1
 go_enter Tryz.func5, Tryz.ntmps5
 go_wp2_with fail
 clear hW2
 refine (heavy_any A n c L B m d X W2 HS.out HX.out (by omega) (by omega)).mono ?_
 rintro e w3 ⟨bh, rfl, hb, he3⟩
 have HEW := Lib.hid (HEW.out.trans he3)
 have HPA := Lib.hid (HPA.out.ext he3)
 have HS := Lib.hid (HS.out.ext he3)
 have HX := Lib.hid (HX.out.ext he3)
 clear c0 c1 he3
 obtain ⟨c0, c1⟩ := vw_facts HPA.out
 cases bh with
 | true =>
  go_wp2_with fail
  refine (awake37_any _).mono ?_
  rintro e w9 ⟨rfl, he9⟩
  go_wp2_with fail
  go_ret
  exact ⟨rfl, HEW.out.trans he9⟩
 | false =>
  have hb1 := hb rfl
  clear hb
  have HWF := Lib.hid (show ∀ v ∈ canonO ltSv (L.map SgR.V), v.1.wf from fun v hv => by
   rw [mem_canonO ltSv_sto] at hv
   obtain ⟨S, hS, rfl⟩ := List.mem_map.1 hv
   exact (HS.out.ok S hS).v)
  have HOK := Lib.hid (splV_ok (canonO ltSv (L.map SgR.V)) (canonO lexB (X.map TeR.l)) HWF.out)
  obtain ⟨ls, z, hls⟩ : ∃ ls z, splV (canonO ltSv (L.map SgR.V)) (canonO lexB (X.map TeR.l)) = (ls, z) := ⟨_, _, rfl⟩
  have HP1 := Lib.hid (split_any A n c L B m d X w3 HS.out HX.out (by omega) (by omega) HZS.out HZT.out)
  have HP2 := Lib.hid (fun (W : World) (he : Ext w3 W) => rSplit_any A n c L B m d X W (HS.out.ext he) (HX.out.ext he) (by omega) (by omega) HZS.out HZT.out)
  have HLS := Lib.hid hls
  rw [hls] at HOK
  clear HWF hls
  go_wp2_with fail
  refine HP1.out.mono ?_
  rintro e w4 ⟨A4, n4, c4, D4, rfl, hr4, hd4, hn4, he4⟩
  rw [HLS.out] at hd4 ⊢
  have HPA := Lib.hid (HPA.out.ext he4)
  have HEW4 := Lib.hid (HEW.out.trans he4)
  have HR4 := Lib.hid hr4
  have HD4 := Lib.hid (show D4.map TeR.l = ls from hd4)
  have HN4 := Lib.hid hn4
  clear c0 c1 hr4 hd4 hn4
  obtain ⟨c0, c1⟩ := vw_facts HPA.out
  go_wp2_with fail
  refine (HP2.out w4 he4).mono ?_
  rintro e w5 ⟨A5, n5, c5, D5, rfl, hr5, hd5, hn5, he5⟩
  rw [HLS.out] at hd5 ⊢
  have HEW5 := Lib.hid (HEW4.out.trans he5)
  have HR5 := Lib.hid hr5
  have HR45 := Lib.hid (HR4.out.ext he5)
  have HEQ := Lib.hid (show eqG eqTe D4 D5 = true from eqG_of_map TeR.l eqTe (fun x y => rfl) (HD4.out.trans (show D5.map TeR.l = ls from hd5).symm))
  clear c0 c1 hr5 hd5 hn5 he4 he5 HP1 HP2 HLS HR4
  go_wp2_with fail
  refine (sameTexts_any A4 n4 c4 D4 A5 n5 c5 D5 w5 HR45.out.sl HR5.out.sl).mono ?_
  rw [HEQ.out]
  rintro e w6 ⟨rfl, he6⟩
  have HEW6 := Lib.hid (HEW5.out.trans he6)
  have HR6 := Lib.hid (HR45.out.ext he6)
  have HSL := Lib.hid HR6.out.sl
  have HSA := Lib.hid (fun (h : 0 < n4) => HSL.out.at h)
  have hcp := HSL.out.cap
  have hlp := HSL.out.le
  clear he6 HR45 HR5 HR6
  go_wp2_with fail
  go_loopw [7] (fun vi wr => ∃ k : Nat, vi = .int .i64 (k : Int) ∧ k ≤ n4 ∧ Hid (Ext w6 wr)) (fun i _ => n4 - (intOf i).toNat)
  case atStart => exact ⟨0, rfl, Nat.zero_le _, Lib.hid (Ext.refl _)⟩
  case round =>
   obtain ⟨k, rfl, hk, HE⟩ := hrel
   by_cases hlt : k < n4
   ·obtain ⟨b, o, rfl, hr0, hb⟩ := HSA.out (by omega)
    have i1 : (k : Int) < (n4 : Int) := by omega
    have hc1 := te_at (rangeAt_keep hr0 (HE.out.block b hb)) (k := k) (by rw [HSL.out.len]; exact hlt)
    have hmem := nthG_mem (L := D4) (k := k) (by rw [HSL.out.len]; exact hlt)
    have hok := (HSL.out.ext HE.out).nth (k := k) hlt
    have hbn := HN4.out _ hmem
    obtain ⟨p, hp⟩ := HOK.out (nthG D4 k).l (by rw [← HD4.out]; exact List.mem_map_of_mem hmem)
    have HPZ := Lib.hid (pcCd_zero hp)
    obtain ⟨T, hT⟩ : ∃ T, nthG D4 k = T := ⟨_, rfl⟩
    rw [hT] at hc1 hok hbn HPZ
    obtain ⟨Ta, Tn, Tc, Tl⟩ := T
    have HPD := Lib.hid (pcDec3_any Ta Tn Tc Tl wr hok (Nat.le_trans hbn (by omega)))
    clear hr0 hmem hok hbn hp hT
    go_wp2_with fail
    refine HPD.out.mono ?_
    rintro e w7 ⟨A7, n7, c7, L7, B7, m7, d7, X7, rfl, hv7, he7, hc7⟩
    rw [show pcCd Tl = 0 from HPZ.out] at hc7 ⊢
    rcases hc7 with ⟨h0, -⟩ | ⟨-, -, hb7, hb8⟩
    ·exact absurd rfl h0
    obtain ⟨g8, hg8⟩ : ∃ q, w7.heap.size = q := ⟨_, rfl⟩
    obtain ⟨W8, hW8⟩ : ∃ W, w7.alloc (.cells (vwA A7 n7 c7 B7 m7 d7) 25) = W := ⟨_, rfl⟩
    have HN8 := Lib.hid (show Ext w7 W8 from by rw [← hW8]; exact (Ext.refl _).alloc' _)
    have HP8 := Lib.hid (show Blk W8 g8 25 (vwA A7 n7 c7 B7 m7 d7) from by rw [← hW8, ← hg8]; exact Blk.new _ _ _)
    have HE8 := Lib.hid (HE.out.trans (he7.trans HN8.out))
    obtain ⟨x0, x1⟩ := vw_facts HP8.out
    have hs1 := (hv7.sl1).le
    have hs2 := (hv7.sl2).le
    have g1 : ¬ (n7 : Int) > 64 := by omega
    have g2 : ¬ (m7 : Int) > 64 := by omega
    clear hv7 he7 HPD hc1
    go_wp2_with (first | (with_reducible refine wpList_newVw rfl (.tmp 8) (.tmp 44) rfl _ rfl A7 n7 c7 B7 m7 d7 rfl rfl ?_))
    go_roundw
    case rel => exact ⟨k + 1, by go_num, hlt, HE8⟩
    case measure => simp [intOf]; omega
   ·obtain rfl : k = n4 := by omega
    have i1 : ¬ (k : Int) < (k : Int) := by omega
    clear HSA
    go_wp2_with fail
    refine (awake37_any _).mono ?_
    rintro e w9 ⟨rfl, he9⟩
    go_wp2_with fail
    go_ret
    exact ⟨rfl, (HEW6.out.trans HE.out).trans he9⟩
end Go.Proofs.YtbfepgjeecndiaaGreat
