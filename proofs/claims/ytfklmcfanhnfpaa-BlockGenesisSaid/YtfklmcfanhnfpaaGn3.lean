/- EncodeGenesis. -/
import Derived.Test.YtfklmcfanhnfpaaGn2
namespace Go.Proofs.Ytfklmcfanhnfpaa
open Go.RowKit
set_option linter.unusedVariables false
set_option linter.unusedSimpArgs false
attribute [local go_sem ↓] Go.wp_at_zero Go.wp_at_succ

def nmN (l : List UInt64) (k : Nat) : UInt64 := l.getD k 0
theorem take_nmN {l : List UInt64} {k : Nat} (h : k < l.length) : l.take (k + 1) = l.take k ++ [nmN l k] := by
  rw [List.take_succ_eq_append_getElem h]; simp [nmN, h]
theorem nm_at {w : World} {b o k : Nat} {ns : List UInt64} (h : w.rangeAt b o (ncs ns)) (hk : k < ns.length) : w.rangeAt b (o + k * 8) (bcs (nmb (nmN ns k))) := name_at h hk
/-- the accounts and balances, the first k of them -/
def encAB (Ac : List UInt64) (Bl : List Int) (k : Nat) : List UInt8 := (List.range k).flatMap fun j => nmb (nmN Ac j) ++ beI 6 (nthZ Bl j)
theorem encAB_succ (Ac : List UInt64) (Bl : List Int) (k : Nat) : encAB Ac Bl (k + 1) = encAB Ac Bl k ++ nmb (nmN Ac k) ++ beI 6 (nthZ Bl k) := by
  simp [encAB, List.range_succ]
theorem encAB_length (Ac : List UInt64) (Bl : List Int) (k : Nat) : (encAB Ac Bl k).length = 14 * k := by
  induction k with
  | zero => rfl
  | succ k ih => rw [encAB_succ, List.length_append, List.length_append, ih, nmb_length, beI_length]; omega
def preG (N Z : Int) (V : List UInt64) : List UInt8 := [1, toB N] ++ beI 6 Z ++ [toB (V.length : Int)] ++ V.flatMap nmb
def encG (N Z : Int) (V Ac : List UInt64) (Bl : List Int) : List UInt8 := preG N Z V ++ [toB (Ac.length : Int)] ++ encAB Ac Bl Ac.length
theorem preG_length (N Z : Int) (V : List UInt64) : (preG N Z V).length = 9 + 8 * V.length := by
  unfold preG; rw [List.length_append, List.length_append, List.length_append, beI_length, flat_length]; simp
theorem encG_length (N Z : Int) (V Ac : List UInt64) (Bl : List Int) : (encG N Z V Ac Bl).length = 10 + 8 * V.length + 14 * Ac.length := by
  unfold encG; rw [List.length_append, List.length_append, preG_length, encAB_length]; simp; omega
theorem appendUint6 (A : Option Addr) (n c : Nat) (l : List UInt8) (z : Int) (hz : 0 ≤ z ∧ z ≤ 1099511627776) (w : World) (h : SlB w A n c l) (hn : n ≤ 140737488351232) :
    Calls Try.prog 63 #[.slice A n c, .int .u64 z, .int .i64 6] w fun e w' => ∃ A' c', e = .returned (.slice A' (n + 6) c') ∧ OwnB w' w.heap.size 5 A' (n + 6) c' (l ++ beI 6 z) ∧ Ext w w' := by
  have e : z = un (uI z) := by rw [← uI_un, IntKind.wrap_u64]; omega
  have h1 := appendUint_any A n c l (uI z) 6 (by omega) w h hn
  rw [← e, uI_nat] at h1
  exact h1
theorem headG_of {N Z : Int} {n1 n2 n3 : Nat} {l : List Int} (h : vldG N Z n1 n2 n3 l = true) : headG N Z n1 n2 n3 ∧ ∀ k, k < l.length → 0 ≤ nthZ l k ∧ nthZ l k ≤ 1099511627776 := by
  unfold vldG at h
  rw [Bool.and_eq_true, decide_eq_true_eq, decide_eq_true_eq] at h
  refine ⟨h.1, fun k hk => ?_⟩
  have := h.2 k hk
  unfold amtB at this
  rwa [decide_eq_true_eq] at this
theorem encGenesis_no (N Z : Int) (A1 : Option Addr) (n1 c1 : Nat) (A2 : Option Addr) (n2 c2 : Nat) (A3 : Option Addr) (n3 c3 : Nat) (l : List Int) (w : World) (hS : SlZ w A3 n3 c3 l) (hm1 : n1 ≤ 9223372036854775807) (hm2 : n2 ≤ 9223372036854775807) (hv : vldG N Z n1 n2 n3 l = false) :
    Calls Try.prog 26 #[.agg (genC N Z A1 n1 c1 A2 n2 c2 A3 n3 c3)] w fun e w' => e = .returned (.tuple #[.slice none 0 0, .int .i64 1]) ∧ Ext w w' := by
  have hE := (Ext.refl w).alloc' (.cells (genC N Z A1 n1 c1 A2 n2 c2 A3 n3 c3) 50)
  have HV := Lib.hid (valGenesis_any N Z A1 n1 c1 A2 n2 c2 A3 n3 c3 l _ (hS.ext hE) hm1 hm2)
  rw [hv] at HV
  have HE := Lib.hid hE
  clear hS hE hv
  go_enter Try.func26, Try.ntmps26
  go_wp2_with fail
  refine HV.out.mono ?_
  rintro e w1 ⟨rfl, he1⟩
  rw [show codeG false = 1 from rfl]
  go_wp2_with fail
  go_ret2
  exact ⟨rfl, HE.out.trans he1⟩
set_option maxRecDepth 100000 in
set_option maxHeartbeats 8000000 in
theorem encGenesis_yes (N Z : Int) (A1 : Option Addr) (n1 c1 : Nat) (A2 : Option Addr) (n2 c2 : Nat) (A3 : Option Addr) (n3 c3 : Nat) (V Ac : List UInt64) (Bl : List Int) (w : World) (hS1 : SlN w A1 n1 c1 V) (hS2 : SlN w A2 n2 c2 Ac) (hS3 : SlZ w A3 n3 c3 Bl) (hv : vldG N Z n1 n2 n3 Bl = true) :
    Calls Try.prog 26 #[.agg (genC N Z A1 n1 c1 A2 n2 c2 A3 n3 c3)] w fun e w' => ∃ A' n' c', e = .returned (.tuple #[.slice A' n' c', .int .i64 0]) ∧ SlB w' A' n' c' (encG N Z V Ac Bl) ∧ Ext w w' := by
  obtain ⟨⟨g0, g1, g2, g3, g4, g5, g6, rfl, g8, g9⟩, hbl⟩ := headG_of hv
  have hl1 := hS1.len
  have hl2 := hS2.len
  have hl3 := hS3.len
  have hE := (Ext.refl w).alloc' (.cells (genC N Z A1 n1 c1 A2 n3 c2 A3 n3 c3) 50)
  obtain ⟨b1, o1, rfl, hr1, hb1⟩ := hS1.at (by omega)
  obtain ⟨b2, o2, rfl, hr2, hb2⟩ := hS2.at (by omega)
  obtain ⟨b3, o3, rfl, hr3, hb3⟩ := hS3.at (by omega)
  have HV := Lib.hid (valGenesis_any N Z (some ⟨b1, o1, none⟩) n1 c1 (some ⟨b2, o2, none⟩) n3 c2 (some ⟨b3, o3, none⟩) n3 c3 Bl _ (hS3.ext hE) (by omega) (by omega))
  rw [hv] at HV
  have HE := Lib.hid hE
  have HB := Lib.hid (Blk.new w 50 (genC N Z (some ⟨b1, o1, none⟩) n1 c1 (some ⟨b2, o2, none⟩) n3 c2 (some ⟨b3, o3, none⟩) n3 c3))
  have HR1 := Lib.hid hr1
  have HR2 := Lib.hid hr2
  have HR3 := Lib.hid hr3
  have HBL1 := Lib.hid hb1
  have HBL2 := Lib.hid hb2
  have HBL3 := Lib.hid hb3
  have HL1 := Lib.hid hl1
  have HL2 := Lib.hid hl2
  have HL3 := Lib.hid hl3
  have HBL := Lib.hid hbl
  have HTN := Lib.hid (show N = ((toB N).toNat : Int) by rw [← toB_eq]; omega)
  have HT1 := Lib.hid (show (n1 : Int) = ((toB (n1 : Int)).toNat : Int) by rw [← toB_eq]; omega)
  have HT2 := Lib.hid (show (n3 : Int) = ((toB (n3 : Int)).toNat : Int) by rw [← toB_eq]; omega)
  clear hS1 hS2 hS3 hv hE hr1 hr2 hr3 hb1 hb2 hb3 hl1 hl2 hl3 hbl
  go_enter Try.func26, Try.ntmps26
  go_wp2_with fail
  refine HV.out.mono ?_
  rintro e w1 ⟨rfl, he1⟩
  rw [show codeG true = 0 from rfl]
  have HE1 := Lib.hid (HE.out.trans he1)
  have HB1 := Lib.hid (HB.out.ext he1)
  have h1w : w.heap.size < w1.heap.size := HB1.out.lt
  have q0 : w1.cell? ⟨w.heap.size, 0, none⟩ = some (.int .i64 N) := HB1.out.cell 0
  have q1 : w1.cell? ⟨w.heap.size, 1, none⟩ = some (.int .i64 Z) := HB1.out.cell 1
  have HA0 := Lib.hid (appendUint6 _ 2 2 [1, toB N] Z ⟨g8, g9⟩ _ (SlB.new2 w1 5 1 N 1 (toB N) w1.heap.size rfl rfl HTN.out) (by omega))
  clear he1 HV HB
  go_wp2_with fail
  refine HA0.out.mono ?_
  rintro e w2 ⟨A4, c4, rfl, hO2, he2⟩
  have HX2 := Lib.hid (Ext.trans ((Ext.refl w1).alloc' _) he2)
  have HO2 := Lib.hid (show OwnB w2 w1.heap.size _ _ _ _ _ from own_mono hO2 (by simp))
  have q2 : w2.cell? ⟨w.heap.size, 2, none⟩ = some (.slice (some ⟨b1, o1, none⟩) n1 c1) := (HB1.out.ext HX2.out).cell 2
  clear hO2 he2 q0 q1 HA0
  go_wp2_with (at_builtin; go_must (refine wpList_appB bytesE rfl (.tmp 20) (.tmp 25) rfl w1.heap.size _ _ _ ([1, toB N] ++ beI 6 Z) rfl (HO2.out.alloc _) _ 1 1 [toB (n1 : Int)] rfl (SlB.new1 _ _ _ _ _ rfl HT1.out) (by omega) (HX2.out.alloc' _).size w1 (HX2.out.alloc' _) ?_))
  intro A5 c5 w3 hO3 hE3 hs3
  have HO3 := Lib.hid hO3
  have HX3 := Lib.hid hE3
  have q3 : w3.cell? ⟨w.heap.size, 2, none⟩ = some (.slice (some ⟨b1, o1, none⟩) n1 c1) := (HB1.out.ext HX3.out).cell 2
  clear hO3 hE3 HO2 HX2 q2 hs3
  go_wp2_with fail
  go_loopw [30, 4] (fun i v wr => ∃ (k : Nat) (A6 : Option Addr) (c6 : Nat), k ≤ n1 ∧ i = .int .i64 (k : Int) ∧ v = .slice A6 (9 + 8 * k) c6 ∧ OwnB wr w1.heap.size 5 A6 (9 + 8 * k) c6 ([1, toB N] ++ beI 6 Z ++ [toB (n1 : Int)] ++ (V.take k).flatMap nmb) ∧ Ext w1 wr) (fun i _ _ => n1 - (intOf i).toNat)
  case atStart => exact ⟨0, A5, c5, Nat.zero_le _, rfl, rfl, by simpa using HO3.out, HX3.out⟩
  case round =>
    obtain ⟨k, A6, c6, hk, rfl, rfl, hO, hX⟩ := hrel
    have HO := Lib.hid hO
    have HX := Lib.hid hX
    clear hO hX HO3 HX3 q3
    by_cases hlt : k < n1
    · have hr := nm_at (rangeAt_keep HR1.out ((Ext.trans HE1.out HX.out).block b1 HBL1.out)) (k := k) (by rw [HL1.out]; exact hlt)
      have HTK := Lib.hid (take_nmN (l := V) (k := k) (by rw [HL1.out]; exact hlt))
      have i0 : (0 : Int) ≤ (k : Int) := by omega
      have i1 : (k : Int) < (n1 : Int) := by omega
      obtain ⟨x, hx⟩ : ∃ x, nmN V k = x := ⟨_, rfl⟩
      rw [hx] at HTK hr
      clear hx
      go_wp2_with (first | (with_reducible refine wpList_loadN rfl (.tmp 32) rfl b1 (o1 + k * 8) rfl x hr ?_) | (with_reducible refine wpList_storeNew rfl (.tmp 6) (.tmp 33) rfl wr.heap.size x rfl rfl rfl ?_) | (at_builtin; (refine wpList_appB bytesE rfl (.tmp 34) (.tmp 35) rfl w1.heap.size _ _ _ _ rfl (HO.out.alloc _) _ 8 8 (nmb x) rfl (SlB.blkN (Blk.new wr _ (nmc x))) (by omega) (HX.out.alloc' _).size w1 (HX.out.alloc' _) ?_)))
      intro A7 c7 w4 hO4 hE4 hs4
      have HO4 := Lib.hid (show OwnB w4 w1.heap.size 5 A7 (9 + 8 * (k + 1)) c7 ([1, toB N] ++ beI 6 Z ++ [toB (n1 : Int)] ++ (V.take (k + 1)).flatMap nmb) by
        rw [HTK.out, List.flatMap_append, show 9 + 8 * (k + 1) = 9 + 8 * k + 8 by omega]
        simpa using hO4)
      clear hO4 HO hr hs4
      go_wp2_with fail
      go_roundw
      case rel => exact ⟨k + 1, A7, c7, by omega, by go_num, by congr 1, HO4.out, hE4⟩
      case measure => simp [intOf]; omega
    · obtain rfl : k = n1 := by omega
      have HOp := Lib.hid (show OwnB wr w1.heap.size 5 A6 (9 + 8 * k) c6 (preG N Z V) by
        have := HO.out
        rw [List.take_of_length_le (Nat.le_of_eq HL1.out)] at this
        unfold preG; rw [HL1.out]; exact this)
      have q4 : wr.cell? ⟨w.heap.size, 3, none⟩ = some (.slice (some ⟨b2, o2, none⟩) n3 c2) := (HB1.out.ext HX.out).cell 3
      clear HO
      go_wp2_with (at_builtin; go_must (refine wpList_appB bytesE rfl (.tmp 38) (.tmp 43) rfl w1.heap.size _ _ _ (preG N Z V) rfl (HOp.out.alloc _) _ 1 1 [toB (n3 : Int)] rfl (SlB.new1 _ _ _ _ _ rfl HT2.out) (by omega) (HX.out.alloc' _).size w1 (HX.out.alloc' _) ?_))
      intro A7 c7 w4 hO4 hE4 hs4
      have HO4 := Lib.hid hO4
      have HX4 := Lib.hid hE4
      have q5 : w4.cell? ⟨w.heap.size, 3, none⟩ = some (.slice (some ⟨b2, o2, none⟩) n3 c2) := (HB1.out.ext HX4.out).cell 3
      clear hO4 hE4 HOp q4 hs4
      go_wp2_with fail
      go_loopw [48, 4] (fun i v wr => ∃ (j : Nat) (A8 : Option Addr) (c8 : Nat), j ≤ n3 ∧ i = .int .i64 (j : Int) ∧ v = .slice A8 (9 + 8 * k + 1 + 14 * j) c8 ∧ OwnB wr w1.heap.size 5 A8 (9 + 8 * k + 1 + 14 * j) c8 (preG N Z V ++ [toB (n3 : Int)] ++ encAB Ac Bl j) ∧ Ext w1 wr) (fun i _ _ => n3 - (intOf i).toNat)
      case atStart => exact ⟨0, A7, c7, Nat.zero_le _, rfl, rfl, by simpa [encAB] using HO4.out, HX4.out⟩
      case round =>
        obtain ⟨j, A8, c8, hj, rfl, rfl, hO, hX⟩ := hrel
        have HO := Lib.hid hO
        have HXj := Lib.hid hX
        clear hO hX HO4 HX4 q5
        by_cases hlt2 : j < n3
        · have hr := nm_at (rangeAt_keep HR2.out ((Ext.trans HE1.out HXj.out).block b2 HBL2.out)) (k := j) (by rw [HL2.out]; exact hlt2)
          have hza := HBL.out j (by rw [HL3.out]; exact hlt2)
          have HQ := Lib.hid (fun (W : World) (h : Ext w1 W) => show W.cell? ⟨w.heap.size, 4, none⟩ = some (.slice (some ⟨b3, o3, none⟩) n3 c3) ∧ W.cell? ⟨b3, o3 + j, none⟩ = some (.int .i64 (nthZ Bl j)) from
            ⟨(HB1.out.ext h).cell 4, int_at (rangeAt_keep HR3.out ((Ext.trans HE1.out h).block b3 HBL3.out)) (by rw [HL3.out]; exact hlt2)⟩)
          have HAB := Lib.hid (encAB_succ Ac Bl j)
          have i0 : (0 : Int) ≤ (j : Int) := by omega
          have i1 : (j : Int) < (n3 : Int) := by omega
          obtain ⟨x, hx⟩ : ∃ x, nmN Ac j = x := ⟨_, rfl⟩
          obtain ⟨z, hz⟩ : ∃ z, nthZ Bl j = z := ⟨_, rfl⟩
          rw [hx] at hr HAB
          rw [hz] at HQ HAB hza
          have uw : IntKind.u64.wrap z = z := by rw [IntKind.wrap_u64]; omega
          have HZ := Lib.hid hza
          have hXa := (HXj.out.alloc' (.cells (nmc x) 25)).drew'
          have HBS := Lib.hid ((SlB.blkN (Blk.new wr 25 (nmc x))).ext (Ext.refl _).drew')
          have HSZ := Lib.hid (show w1.heap.size ≤ (wr.alloc (.cells (nmc x) 25)).drew.heap.size from hXa.size)
          clear hx hz hza
          go_wp2_with (first | (with_reducible refine wpList_loadN rfl (.tmp 51) rfl b2 (o2 + j * 8) rfl x hr ?_) | (with_reducible refine wpList_storeNew rfl (.tmp 8) (.tmp 52) rfl wr.heap.size x rfl rfl rfl ?_))
          go_region_held3 (fun w' => w'.cell? ⟨w.heap.size, 4, none⟩ = some (.slice (some ⟨b3, o3, none⟩) n3 c3) ∧ w'.cell? ⟨b3, o3 + j, none⟩ = some (.int .i64 z)) (first | (with_reducible exact HQ.out _ hXa) | (with_reducible exact HQ.out _ hX7) | (with_reducible exact HQ.out _ hX6) | fail "CELLS") (first | (refine step_appBG bytesE rfl (.tmp 53) (.tmp 54) rfl w1.heap.size A8 (9 + 8 * k + 1 + 14 * j) c8 _ (by rfl) (OwnB.drew (HO.out.alloc _)) (some ⟨wr.heap.size, 0, none⟩) 8 8 (nmb x) (by rfl) HBS.out (by omega) HSZ.out ?_; intro A9 c9 w6 hO6 hg6; have hX6 : Ext w1 w6 := below_grown (OwnB.drew (HO.out.alloc _)) hXa HSZ.out hg6; have HO6 := Lib.hid hO6; clear hO6 hg6) | (go_at_call 63; (with_reducible refine (appendUint6 A9 _ c9 _ z HZ.out _ HO6.out.sl (by omega)).mono ?_); rintro e w7 ⟨A10, c10, rfl, hO7, he7⟩; have hX7 := Ext.trans hX6 he7; have HO7 := Lib.hid (show OwnB w7 w1.heap.size _ _ _ _ _ from own_mono hO7 hX6.size); clear hO7 he7) | fail "ARM")
          all_goals (
            have HO8 := Lib.hid (show OwnB w7 w1.heap.size 5 A10 (9 + 8 * k + 1 + 14 * (j + 1)) c10 (preG N Z V ++ [toB (n3 : Int)] ++ encAB Ac Bl (j + 1)) by
              rw [HAB.out, show 9 + 8 * k + 1 + 14 * (j + 1) = 9 + 8 * k + 1 + 14 * j + 8 + 6 by omega]
              have := HO7.out
              simpa using this)
            have HX7 := Lib.hid hX7
            clear HO7 HO6 HO hX7 hX6 hXa hr
            go_wp2_with fail
            go_roundw
            case rel => exact ⟨j + 1, A10, c10, by omega, by go_num, by congr 1, HO8.out, HX7.out⟩
            case measure => simp [intOf]; omega)
        · obtain rfl : j = n3 := by omega
          go_wp2_with fail
          go_ret2
          refine ⟨A8, 9 + 8 * k + 1 + 14 * j, c8, rfl, ?_, Ext.trans HE1.out HXj.out⟩
          have := HO.out.sl
          unfold encG
          rw [HL2.out]
          exact this
end Go.Proofs.Ytfklmcfanhnfpaa
