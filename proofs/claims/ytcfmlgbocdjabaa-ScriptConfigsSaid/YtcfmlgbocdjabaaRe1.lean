/- The reference's AppendUint, num, name. -/
import Derived.Test.YtcfmlgbocdjabaaBk5
import Derived.Test.YtcfmlgbocdjabaaEqN
namespace Go.Proofs.Ytcfmlgbocdjabaa
open Go.RowKit
set_option linter.unusedVariables false
set_option linter.unusedSimpArgs false
attribute [local go_sem ↓] Go.wp_at_zero Go.wp_at_succ

set_option maxRecDepth 100000 in
set_option maxHeartbeats 4000000 in
theorem refAppendUint_any (A : Option Addr) (n c : Nat) (l : List UInt8) (v : UInt64) (wd : Nat) (hwd1 : 1 ≤ wd) (hwd : wd ≤ 8) (w : World) (h : SlB w A n c l) (hn : n ≤ 140737488351232) :
    Calls Try.prog 112 #[.slice A n c, .int .u64 (un v), .int .i64 (wd : Int)] w fun e w' => ∃ A' c', e = .returned (.slice A' (n + wd) c') ∧ OwnB w' w.heap.size 5 A' (n + wd) c' (l ++ beBytes wd v.toNat) ∧ Ext w w' := by
  have k0 : (0 : Int) < (wd : Int) := by omega
  have k1 : (wd : Int) ≤ 8 := by omega
  have hv0 := un_nonneg v
  have HV1 := Lib.hid (un_lt v)
  have HS := Lib.hid (h.ext ((Ext.refl w).alloc' (.cells #[] 5)))
  clear h
  go_enter Try.func112, Try.ntmps112
  go_wp2_with (at_builtin; go_must (refine wpList_appB bytesE rfl (.tmp 9) (.tmp 10) rfl w.heap.size _ 0 _ [] rfl (OwnB.made w w.heap.size #[] 0 _ rfl (Nat.le_refl _) (by omega) rfl) A n c l rfl HS.out (by omega) ((Ext.refl w).alloc' _).size w ((Ext.refl w).alloc' _) ?_))
  intro A1 c1 w1 hO1 hE1 hs1
  have HO1 := Lib.hid (show OwnB w1 w.heap.size 5 A1 n c1 l from by simpa using hO1)
  have HE1 := Lib.hid hE1
  clear hO1 hE1
  go_wp2_with fail
  go_loopw [7, 8] (fun x i wr => ∃ (j : Nat) (A2 : Option Addr) (c2 : Nat), j ≤ wd ∧ i = .int .i64 ((j : Int) - 1) ∧ x = .slice A2 (n + (wd - j)) c2 ∧ OwnB wr w.heap.size 5 A2 (n + (wd - j)) c2 (l ++ (beBytes wd v.toNat).take (wd - j)) ∧ Ext w wr) (fun _ i _ => (intOf i + 1).toNat)
  case atStart => exact ⟨wd, A1, c1, Nat.le_refl _, rfl, by simp, by simpa using HO1.out, HE1.out⟩
  case round =>
    obtain ⟨j, A2, c2, hj, rfl, rfl, hO, hE⟩ := hrel
    have HO := Lib.hid hO
    have HE := Lib.hid hE
    clear hO hE
    by_cases hlt : 0 < j
    · obtain ⟨i, rfl⟩ : ∃ i, j = i + 1 := ⟨j - 1, by omega⟩
      obtain ⟨kk, hkk⟩ : ∃ kk, kk = i := ⟨_, rfl⟩
      have HB := Lib.hid (beBytes_step wd v.toNat kk (by omega))
      have HKK := Lib.hid hkk
      clear hkk
      obtain ⟨q, hq⟩ : ∃ q, q = wd - (i + 1) := ⟨_, rfl⟩
      rw [← hq] at HO ⊢
      have HQ := Lib.hid (show q = wd - (kk + 1) from by rw [HKK.out]; exact hq)
      have hq8 : q ≤ 8 := by omega
      clear hq
      rw [show ((i + 1 : Nat) : Int) - 1 = (i : Int) from by omega]
      have hi7 : i = 0 ∨ i = 1 ∨ i = 2 ∨ i = 3 ∨ i = 4 ∨ i = 5 ∨ i = 6 ∨ i = 7 := by omega
      rcases hi7 with rfl | rfl | rfl | rfl | rfl | rfl | rfl | rfl
      all_goals (
        go_wp2_with (at_builtin; go_must (refine wpList_appB bytesE rfl (.tmp 20) (.tmp 27) rfl w.heap.size A2 _ c2 _ rfl (HO.out.alloc _) _ 1 1 [toB _] rfl (SlB.new1 _ _ _ _ _ rfl (toB_eq _)) (by omega) (HE.out.alloc' _).size w (HE.out.alloc' _) ?_))
        intro A4 c4 w4 hO4 hE4 hs4
        have HO4 := Lib.hid (au_rel hO4 kk HQ.out HB.out (by have := HKK.out; omega) (by rw [HKK.out]; simp [un]))
        clear hO4
        go_wp2_with fail
        go_roundw
        case rel => exact ⟨kk, A4, c4, by have := HKK.out; omega, by rw [HKK.out]; go_num, by have := HKK.out; have := HQ.out; congr 1; omega, HO4.out, hE4⟩
        case measure => simp [intOf])
    · obtain rfl : j = 0 := by omega
      have i1 : ((0 : Nat) : Int) - 1 < 0 := by omega
      go_wp2_with fail
      go_ret
      exact ⟨A2, c2, by simp, by have := HO.out; rwa [Nat.sub_zero, List.take_of_length_le (by rw [beBytes_length]; omega)] at this, HE.out⟩
/-- the bytes of an int -/
def beI (wd : Nat) (z : Int) : List UInt8 := beBytes wd (z % 18446744073709551616).toNat
theorem beI_length (wd : Nat) (z : Int) : (beI wd z).length = wd := beBytes_length _ _
def uI (z : Int) : UInt64 := UInt64.ofNat (z % 18446744073709551616).toNat
theorem uI_un (z : Int) : IntKind.u64.wrap z = un (uI z) := by
  rw [IntKind.wrap_u64]; unfold un uI; rw [UInt64.toNat_ofNat_of_lt' (by simp [UInt64.size]; omega)]; omega
theorem uI_nat (z : Int) : (uI z).toNat = (z % 18446744073709551616).toNat := by
  unfold uI; rw [UInt64.toNat_ofNat_of_lt' (by simp [UInt64.size]; omega)]
set_option maxHeartbeats 1000000 in
theorem refNum_any (A : Option Addr) (n c : Nat) (l : List UInt8) (z : Int) (wd : Nat) (hwd1 : 1 ≤ wd) (hwd : wd ≤ 8) (w : World) (h : SlB w A n c l) (hn : n ≤ 140737488351232) :
    Calls Try.prog 54 #[.slice A n c, .int .i64 z, .int .i64 (wd : Int)] w fun e w' => ∃ A' c', e = .returned (.slice A' (n + wd) c') ∧ OwnB w' w.heap.size 5 A' (n + wd) c' (l ++ beI wd z) ∧ Ext w w' := by
  have hu := uI_un z
  have HA := Lib.hid (refAppendUint_any A n c l (uI z) wd hwd1 hwd w h hn)
  rw [uI_nat] at HA
  generalize uI z = u at *
  clear h
  go_enter Try.func54, Try.ntmps54
  go_wp2_with fail
  refine HA.out.mono ?_
  rintro e w1 ⟨A1, c1, rfl, hO, hE⟩
  go_wp2_with fail
  go_ret
  exact ⟨A1, c1, rfl, hO, hE⟩
set_option maxRecDepth 100000 in
set_option maxHeartbeats 1000000 in
theorem refNm_any (A : Option Addr) (n c : Nat) (l : List UInt8) (v : UInt64) (w : World) (h : SlB w A n c l) (hn : n ≤ 140737488351232) :
    Calls Try.prog 55 #[.slice A n c, .agg (nmc v)] w fun e w' => ∃ A' c', e = .returned (.slice A' (n + 8) c') ∧ OwnB w' w.heap.size 5 A' (n + 8) c' (l ++ nmb v) ∧ Ext w w' := by
  have hE0 := (Ext.refl w).alloc' (.cells (nmc v) 23)
  have HS := Lib.hid (fun (W : World) (hW : Ext w W) => h.ext hW)
  have HB := Lib.hid (Blk.new w 23 (nmc v))
  have HE0 := Lib.hid hE0
  clear h hE0
  go_enter Try.func55, Try.ntmps55
  go_wp2_with fail
  go_region_law (first | (refine step_appBG bytesE rfl (.tmp 5) (.tmp 6) rfl (w.heap.size + 1) (some ⟨w.heap.size + 1, 0, none⟩) 0 0 [] (by rfl) (OwnB.drew (OwnB.made (w.alloc (.cells (nmc v) 23)) (w.heap.size + 1) #[] 0 (w.heap.size + 1) (by simp) (Nat.le_refl _) (by omega) rfl)) A n c l (by rfl) (HS.out _ ((HE0.out.alloc' _).drew')) (by omega) (by simp) ?_; intro A5 c5 w5 hO5 hg5; have hE5 := below_grown (w0 := w.alloc (.cells (nmc v) 23)) (OwnB.drew (OwnB.made (w.alloc (.cells (nmc v) 23)) (w.heap.size + 1) #[] 0 (w.heap.size + 1) (by simp) (Nat.le_refl _) (by omega) rfl)) (((Below.refl _ _).alloc (by simp) _).drew) (by simp) hg5; have HO5 := Lib.hid (show OwnB w5 (w.heap.size + 1) 5 A5 n c5 l from by simpa using hO5); have HE5 := Lib.hid hE5; have HS5 := Lib.hid (SlB.blkN (HB.out.below hE5 (by omega))); clear hO5 hE5 hg5) | (refine step_appBG bytesE rfl (.tmp 7) (.tmp 8) rfl (w.heap.size + 1) A5 n c5 l (by rfl) HO5.out (some ⟨w.heap.size, 0, none⟩) 8 8 (nmb v) (by rfl) HS5.out (by omega) (by have := HE5.out.size; simpa using this) ?_; intro A6 c6 w6 hO6 hg6; have hE6 := below_grown HO5.out HE5.out (by have := HE5.out.size; simpa using this) hg6; have HO6 := Lib.hid hO6; have HE6 := Lib.hid hE6; clear hO6 hg6 hE6))
  all_goals (
    go_wp2_with fail
    go_ret
    refine ⟨A6, c6, rfl, own_mono HO6.out (by omega), HE0.out.trans (HE6.out.mono (by simp))⟩)
end Go.Proofs.Ytcfmlgbocdjabaa
