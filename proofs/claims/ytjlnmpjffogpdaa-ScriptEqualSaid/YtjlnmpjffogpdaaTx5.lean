/- encode, Encode (the program's). -/
import Derived.Test.YtjlnmpjffogpdaaTx4
namespace Go.Proofs.Ytjlnmpjffogpdaa
open Go.RowKit
set_option linter.unusedVariables false
set_option linter.unusedSimpArgs false
attribute [local go_sem ↓] Go.wp_at_zero Go.wp_at_succ

theorem size1_any (w : World) : Calls Try.prog 105 #[.int .i64 1] w fun e w' => e = .returned (.int .i64 186) ∧ w = w' := by
  go_enter Try.func105, Try.ntmps105
  go_wp2_with fail
  go_ret
  exact ⟨rfl, rfl⟩
def encOps (L : List OpR) : List UInt8 := L.flatMap encOp
theorem encOps_append (a b : List OpR) : encOps (a ++ b) = encOps a ++ encOps b := by simp [encOps]
/-- the encoding of a transaction -/
def encTx (ac sq : Int) (L : List OpR) : List UInt8 := [toB ac, toB sq, toB (L.length : Int)] ++ encOps L
/-- of one with its signature -/
def encST (ac sq : Int) (L : List OpR) (sig : List UInt8) : List UInt8 := encTx ac sq L ++ blob sig
/-- when a transaction with its signature can be encoded -/
def vST (ac sq : Int) (L : List OpR) (m : Nat) : Bool := vTx ac sq L && decide (m = 186)
theorem encOp_len {R : OpR} {w : World} (hv : vOp R = true) (hR : R.ok w) : (encOp R).length ≤ 3000 := by
  have h1 := hR.pre.len
  have h2 := hR.prf.len
  have b1 := vOp_pre hv
  have b2 := vOp_prf hv
  rcases kind_cases R.k with h | h | h | h | h | h | h
  · rw [encOp_1 h]; simp [beI_length]
  · rw [encOp_2 h]; simp [beI_length, nmb_length]
  · rw [encOp_3 h]; simp [beI_length, nmb_length, blob_length]; omega
  · rw [encOp_4 h]; simp [beI_length, nmb_length]
  · rw [encOp_5 h]; simp [beI_length]
  · rw [encOp_6 h]; simp [blob_length]; omega
  · exact absurd (vOp_kind hv) h
theorem OwnB.len {w : World} {base : Nat} {e : TypeId} {A : Option Addr} {n c : Nat} {l : List UInt8} (h : OwnB w base e A n c l) : l.length = n := h.sl.len
/-- a slice literal of three bytes is one's own -/
theorem own_lit3 (w : World) (base : Nat) (e : TypeId) (x y z : Int) (g : Nat) (hg : w.heap.size = g) (hb : base ≤ g) (x' y' z' : Int) (hx : x' = ((toB x).toNat : Int)) (hy : y' = ((toB y).toNat : Int)) (hz : z' = ((toB z).toNat : Int)) : OwnB (w.alloc (.cells #[.int .u8 x', .int .u8 y', .int .u8 z'] e)) base e (some ⟨g, 0, none⟩) 3 3 [toB x, toB y, toB z] := by
  subst hg; subst hx; subst hy; subst hz
  exact own_cells (heap_alloc_new w _) hb rfl (Nat.le_refl _) (by omega) rfl rfl
theorem toB_wrapped (z : Int) : IntKind.u8.wrap z = ((toB z).toNat : Int) := toB_wrap z
set_option maxRecDepth 100000 in
set_option maxHeartbeats 4000000 in
theorem encode_any (ac sq : Int) (A : Option Addr) (n c : Nat) (L : List OpR) (w : World) (hS : SlO w A n c L) (hv : vTx ac sq L = true) :
    Calls Try.prog 129 #[.agg (txA ac sq A n c)] w fun e w' => ∃ A' n' c', e = .returned (.slice A' n' c') ∧ OwnB w' w.heap.size 5 A' n' c' (encTx ac sq L) ∧ n' ≤ 13000 ∧ Ext w w' := by
  obtain ⟨⟨h1, h2, h3, h4, h5, h6⟩, hops⟩ := vTx_of hv
  have hlen := hS.len
  rw [hlen] at h5 h6
  have hle := hS.le
  have hcap := hS.cap
  have hE := (Ext.refl w).alloc' (.cells (txA ac sq A n c) 143)
  obtain ⟨b, o, rfl, hr0, hb0⟩ := hS.at (by omega)
  have HSW := Lib.hid (hS.ext hE)
  have HLEN := Lib.hid hlen
  have HR0 := Lib.hid hr0
  have HBL := Lib.hid hb0
  have HOPS := Lib.hid hops
  have HE := Lib.hid hE
  obtain ⟨w1, hw1⟩ : ∃ w1, w1 = w.alloc (.cells (txA ac sq (some ⟨b, o, none⟩) n c) 143) := ⟨_, rfl⟩
  have HW1 := Lib.hid hw1
  have HT1 := Lib.hid (toB_wrapped (n : Int))
  clear hS hE hr0 hb0 hops hlen hv hw1
  go_enter Try.func129, Try.ntmps129
  go_wp2_with fail
  go_loopw [20, 3] (fun i v wr => ∃ (k : Nat) (A4 : Option Addr) (n4 c4 : Nat), k ≤ n ∧ i = .int .i64 (k : Int) ∧ v = .slice A4 n4 c4 ∧ n4 ≤ 3 + 3000 * k ∧ OwnB wr w1.heap.size 5 A4 n4 c4 ([toB ac, toB sq, toB (n : Int)] ++ encOps (L.take k)) ∧ Ext w1 wr) (fun i _ _ => n - (intOf i).toNat)
  case atStart =>
    refine ⟨0, _, 3, 3, Nat.zero_le _, rfl, rfl, Nat.le_refl _, ?_, ?_⟩
    · rw [HW1.out]
      simp only [encOps, List.take_zero, List.flatMap_nil, List.append_nil]
      exact own_lit3 _ _ _ _ _ _ _ (by simp) (by simp) _ _ _ (by first | exact toB_eq _ | (rw [← toB_eq]; omega)) (by first | exact toB_eq _ | (rw [← toB_eq]; omega)) (by first | exact toB_eq _ | (rw [← toB_eq]; omega))
    · rw [HW1.out]; exact (Ext.refl _).alloc' _
  case round =>
    obtain ⟨k, A4, n4, c4, hk, rfl, rfl, hn4, hO, hX⟩ := hrel
    have HO := Lib.hid hO
    have HX := Lib.hid hX
    clear hO hX
    by_cases hlt : k < n
    · have HE2 := Lib.hid (show Ext w wr from by rw [HW1.out] at HX; exact HE.out.trans HX.out)
      have hr := op_at (rangeAt_keep HR0.out (HE2.out.block b HBL.out)) (k := k) (by rw [HLEN.out]; exact hlt)
      have HTK := Lib.hid (take_nthO (L := L) (k := k) (by rw [HLEN.out]; exact hlt))
      have HOK := Lib.hid (show (nthO L k).ok w1 by rw [HW1.out]; exact HSW.out.nth hlt)
      have HV := Lib.hid (HOPS.out k (by rw [HLEN.out]; exact hlt))
      have i0 : (0 : Int) ≤ (k : Int) := by omega
      have i1 : (k : Int) < (n : Int) := by omega
      obtain ⟨R, hR⟩ : ∃ R, nthO L k = R := ⟨_, rfl⟩
      rw [hR] at hr HTK HOK HV
      clear hR
      have hnew := new_op wr R
      go_wp2_with (first | (with_reducible refine wpList_loadO rfl (.tmp 22) rfl b (o + k * 23) rfl R hr ?_) | (with_reducible refine wpList_newO rfl (.tmp 5) (.tmp 23) rfl _ rfl R rfl rfl ?_) | (with_reducible refine wpList_loadO rfl (.tmp 5) rfl wr.heap.size 0 rfl R hnew ?_))
      refine (appendOp_any R HV.out w1 A4 n4 c4 _ _ HOK.out (HX.out.alloc' _) (HO.out.alloc _) (by omega)).mono ?_
      rintro e w2 ⟨A5, n5, c5, rfl, hO5, hX5⟩
      have HO7 := Lib.hid (show OwnB w2 w1.heap.size 5 A5 n5 c5 ([toB ac, toB sq, toB (n : Int)] ++ encOps (L.take (k + 1))) by
        rw [HTK.out, encOps_append]
        simpa [encOps] using hO5)
      have hn5 : n5 ≤ 3 + 3000 * (k + 1) := by
        have a1 := hO5.len
        have a2 := HO.out.len
        have a3 := encOp_len HV.out HOK.out
        rw [List.length_append, a2] at a1
        omega
      have HX5 := Lib.hid hX5
      clear hO5 hX5 hr hnew HO HTK
      go_wp2_with fail
      go_roundw
      case rel => exact ⟨k + 1, A5, n5, c5, by omega, by go_num, rfl, hn5, HO7.out, HX5.out⟩
      case measure => simp [intOf]; omega
    · obtain rfl : k = n := by omega
      go_wp2_with fail
      go_ret
      refine ⟨A4, n4, c4, rfl, own_mono (base := w1.heap.size) ?_ (by rw [HW1.out]; simp), by omega, by rw [HW1.out] at HX; exact HE.out.trans HX.out⟩
      have := HO.out
      unfold encTx
      rw [List.take_of_length_le (Nat.le_of_eq HLEN.out)] at this
      rw [HLEN.out]
      exact this
theorem st_facts {w : World} {g : Nat} {t : TypeId} {ac sq : Int} {A : Option Addr} {n c : Nat} {S : Option Addr} {m d : Nat} (h : Blk w g t (stA ac sq A n c S m d)) : w.cell? ⟨g, 0, none⟩ = some (.int .i64 ac) ∧ w.cell? ⟨g, 1, none⟩ = some (.int .i64 sq) ∧ w.cell? ⟨g, 2, none⟩ = some (.slice A n c) ∧ w.cell? ⟨g, 3, none⟩ = some (.slice S m d) :=
  ⟨h.cell 0, h.cell 1, h.cell 2, h.cell 3⟩
theorem vST_no1 {ac sq : Int} {L : List OpR} {m : Nat} (h : vTx ac sq L = false) : vST ac sq L m = false := by unfold vST; rw [h, Bool.false_and]
theorem vST_no2 {ac sq : Int} {L : List OpR} {m : Nat} (h : m ≠ 186) : vST ac sq L m = false := by unfold vST; rw [decide_eq_false h, Bool.and_false]
theorem vST_of {ac sq : Int} {L : List OpR} {m : Nat} (h : vST ac sq L m = true) : vTx ac sq L = true ∧ m = 186 := by
  unfold vST at h; simp only [Bool.and_eq_true, decide_eq_true_eq] at h; exact h
set_option maxRecDepth 100000 in
set_option maxHeartbeats 4000000 in
theorem encodeST_no (ac sq : Int) (A : Option Addr) (n c : Nat) (S : Option Addr) (m d : Nat) (L : List OpR) (sig : List UInt8) (w : World) (hS : SlO w A n c L) (hG : SlB w S m d sig) (hv : vST ac sq L m = false) :
    Calls Try.prog 104 #[.agg (stA ac sq A n c S m d)] w fun e w' => e = .returned (.tuple #[.slice none 0 0, .int .i64 1]) ∧ Ext w w' := by
  have hE := (Ext.refl w).alloc' (.cells (stA ac sq A n c S m d) 145)
  have HB := Lib.hid (Blk.new w 145 (stA ac sq A n c S m d))
  have HV := Lib.hid (fun (W : World) (h : Ext (w.alloc (.cells (stA ac sq A n c S m d) 145)) W) => validate_any ac sq A n c L W ((hS.ext hE).ext h))
  have hle := hG.le
  have hcap := hG.cap
  obtain ⟨q0, q1, q2, q3⟩ := st_facts HB.out
  have HE := Lib.hid hE
  have hXd := (Ext.refl (w.alloc (.cells (stA ac sq A n c S m d) 145))).drew'
  cases hx : vTx ac sq L with
  | false =>
    rw [hx] at HV
    have HV := Lib.hid (show ∀ (W : World) (h : Ext (w.alloc (.cells (stA ac sq A n c S m d) 145)) W), Calls Try.prog 128 #[.agg (txA ac sq A n c)] W (fun e w' => e = .returned (.int .i64 1) ∧ Ext W w') from HV.out)
    clear hS hE hv hx hG
    go_enter Try.func104, Try.ntmps104
    go_wp2_with fail
    first | go_region_with (first | (go_at_call 128; (with_reducible refine (HV.out _ hXd).mono ?_); rintro e w1 ⟨rfl, he1⟩) | fail "ARM") | fail "REGION"
    all_goals (
      go_wp2_with fail
      go_ret2
      exact ⟨rfl, HE.out.trans (hXd.trans he1)⟩)
  | true =>
    have hm : m ≠ 186 := by
      intro e; unfold vST at hv; rw [hx, e] at hv; cases hv
    rw [hx] at HV
    have HV := Lib.hid (show ∀ (W : World) (h : Ext (w.alloc (.cells (stA ac sq A n c S m d) 145)) W), Calls Try.prog 128 #[.agg (txA ac sq A n c)] W (fun e w' => e = .returned (.int .i64 0) ∧ Ext W w') from HV.out)
    have d1 : ((m : Int) != 186) = true := by simp; omega
    have d2 : decide ((m : Int) = 186) = false := by simp; omega
    have d3 : ((m : Int) == 186) = false := by simp; omega
    clear hS hE hv hx hG hm
    go_enter Try.func104, Try.ntmps104
    go_wp2_with fail
    first | go_region_with (first | (go_at_call 128; (with_reducible refine (HV.out _ hXd).mono ?_); rintro e w1 ⟨rfl, he1⟩; have p3 := (st_facts (HB.out.ext (hXd.trans he1))).2.2.2) | (go_at_call 105; (with_reducible refine (size1_any _).mono ?_); rintro e w2 ⟨rfl, rfl⟩) | fail "ARM") | fail "REGION"
    all_goals (
      go_wp2_with fail
      go_ret2
      exact ⟨rfl, HE.out.trans (hXd.trans he1)⟩)
end Go.Proofs.Ytjlnmpjffogpdaa
