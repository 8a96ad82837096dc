/- SignTx (the reference's), Verify of a transaction, both sides. -/
import Derived.Test.YtcfmlgbocdjabaaGreatTg3
import Derived.Test.YtcfmlgbocdjabaaGreatVer8
import Derived.Test.YtcfmlgbocdjabaaGreatAcc
import Derived.Test.YtcfmlgbocdjabaaGreatTx12b
namespace Go.Proofs.YtcfmlgbocdjabaaGreat
open Go.RowKit
set_option linter.unusedVariables false
set_option linter.unusedSimpArgs false
attribute [local go_sem ↓] Go.wp_at_zero Go.wp_at_succ

set_option maxRecDepth 100000 in
set_option maxHeartbeats 4000000 in
theorem refSignTx_any (seed : UInt64) (ac sq : Int) (A : Option Addr) (n c : Nat) (L : List OpR) (w : World) (hS : SlO w A n c L) :
    Calls Tryz.prog 9 #[.agg (nmc seed), .agg (txA ac sq A n c)] w (SgOut w seed ac sq L) := by
  have hE := (((Ext.refl w).alloc' (.cells (nmc seed) 23)).alloc' (.cells (txA ac sq A n c) 26)).alloc' (.cells zero4 31)
  obtain ⟨W0, hW0⟩ : ∃ W0, ((w.alloc (.cells (nmc seed) 23)).alloc (.cells (txA ac sq A n c) 26)).alloc (.cells zero4 31) = W0 := ⟨_, rfl⟩
  have HB0 := Lib.hid (((Blk.new w 23 (nmc seed)).alloc (.cells (txA ac sq A n c) 26)).alloc (.cells zero4 31))
  have HB1 := Lib.hid (show Blk (((w.alloc (.cells (nmc seed) 23)).alloc (.cells (txA ac sq A n c) 26)).alloc (.cells zero4 31)) (w.heap.size + 1) 26 (txA ac sq A n c) from (Blk.newAt _ _ _ _ (by simp)).alloc _)
  have HB2 := Lib.hid (show Blk (((w.alloc (.cells (nmc seed) 23)).alloc (.cells (txA ac sq A n c) 26)).alloc (.cells zero4 31)) (w.heap.size + 2) 31 zero4 from Blk.newAt _ _ _ _ (by simp))
  have HE := Lib.hid hE
  have HS := Lib.hid (hS.ext hE)
  rw [hW0] at HB0 HB1 HB2 HE HS
  have q0 : W0.cell? ⟨w.heap.size + 1, 0, none⟩ = some (.int .i64 ac) := HB1.out.cell 0
  have q1 : W0.cell? ⟨w.heap.size + 1, 1, none⟩ = some (.int .i64 sq) := HB1.out.cell 1
  have q2 : W0.cell? ⟨w.heap.size + 1, 2, none⟩ = some (.slice A n c) := HB1.out.cell 2
  have HV := Lib.hid (refValidTx_any ac sq A n c L _ HS.out)
  have hS0 := Lib.hid hS.len
  have HSW := Lib.hid hS
  clear hS hE
  cases hv : vTx ac sq L with
  | false =>
    rw [hv] at HV
    have HV := Lib.hid (show Calls Tryz.prog 27 #[.agg (txA ac sq A n c)] W0 (fun e w' => e = .returned (.bool false) ∧ Ext W0 w') from HV.out)
    have HVV := Lib.hid hv
    clear hv
    go_enter Tryz.func9, Tryz.ntmps9
    go_wp2_with fail
    refine HV.out.mono ?_
    rintro e w1 ⟨rfl, he1⟩
    have HB3 := Lib.hid (HB2.out.ext he1)
    have HE3 := Lib.hid (HE.out.trans he1)
    have htz := st_there HB3.out
    clear he1 hW0 q0 q1 q2
    go_wp2_with (first | (with_reducible refine wpList_storeSt rfl (.tmp 4) (.tmp 11) rfl (w.heap.size + 2) zero4 rfl rfl htz rfl (stA_all _ _ _ _ _ _ _ _) ?_))
    exact bodyPost_ret (v := .tuple #[.agg zero4, .int .i64 1]) (retCV rfl _ _ (w.heap.size + 2) _ _ rfl rfl (run_loadVar_row _ _ _ _ _ (0, 0) _ (st_store HB3.out zero4 rfl) Tryz.underlying31 rfl (by kernel_rfl))) rfl ⟨Below.setCells' HE3.out (by omega) _ _, .inl ⟨HVV.out, rfl⟩⟩
  | true =>
    rw [hv] at HV
    have HV := Lib.hid (show Calls Tryz.prog 27 #[.agg (txA ac sq A n c)] W0 (fun e w' => e = .returned (.bool true) ∧ Ext W0 w') from HV.out)
    have HVV := Lib.hid hv
    clear hv
    go_enter Tryz.func9, Tryz.ntmps9
    go_wp2_with fail
    refine HV.out.mono ?_
    rintro e w1 ⟨rfl, he1⟩
    have HB0 := Lib.hid (HB0.out.ext he1)
    have HB1 := Lib.hid (HB1.out.ext he1)
    have HB2 := Lib.hid (HB2.out.ext he1)
    have HE := Lib.hid (HE.out.trans he1)
    have HS := Lib.hid (HS.out.ext he1)
    clear he1 hW0 q0 q1 q2 HV
    go_wp2_with fail
    have HSS := Lib.hid (fun (W : World) (h : Ext w1 W) => (⟨cells8 (HB0.out.ext h), (HB1.out.ext h).cell 0, (HB1.out.ext h).cell 1, (HB1.out.ext h).cell 2⟩ : (∀ i, i < 8 → W.cell? ⟨w.heap.size, i, none⟩ = some (.int .u8 (nb8 seed i))) ∧ W.cell? ⟨w.heap.size + 1, 0, none⟩ = some (.int .i64 ac) ∧ W.cell? ⟨w.heap.size + 1, 1, none⟩ = some (.int .i64 sq) ∧ W.cell? ⟨w.heap.size + 1, 2, none⟩ = some (.slice A n c)))
    have hX := (Ext.refl w1).drew'
    have HNM := Lib.hid (fun (W : World) (h : Ext w1 W) => refTxName_any ac sq A n c L W (HS.out.ext h))
    obtain ⟨hh, hops⟩ := vTx_of HVV.out
    have HSG := Lib.hid (fun (W : World) => show Calls Tryz.prog 28 #[.agg (nmc seed), .int .i64 1, .int .i64 sq, .agg (nmc (txNm ac sq L))] W (SigOut W (some (sig1 seed sq.toNat (txNm ac sq L)))) from by rw [← sigU_in seed _ hh.2.2.1 hh.2.2.2.1]; exact refSign_any seed _ 1 sq W)
    have HN4 := Lib.hid (show n ≤ 4 by have := hS0.out; omega)
    clear hh hops
    obtain ⟨sg, hsg⟩ : ∃ sg, sig1 seed sq.toNat (txNm ac sq L) = sg := ⟨_, rfl⟩
    rw [hsg] at HSG
    have HSGE := Lib.hid hsg
    clear hsg
    obtain ⟨nm, hnm⟩ : ∃ nm, txNm ac sq L = nm := ⟨_, rfl⟩
    rw [hnm] at HNM HSG HSGE
    have HNE := Lib.hid hnm
    clear hnm
    go_region_held3 (fun w' => (∀ i, i < 8 → w'.cell? ⟨w.heap.size, i, none⟩ = some (.int .u8 (nb8 seed i))) ∧ w'.cell? ⟨w.heap.size + 1, 0, none⟩ = some (.int .i64 ac) ∧ w'.cell? ⟨w.heap.size + 1, 1, none⟩ = some (.int .i64 sq) ∧ w'.cell? ⟨w.heap.size + 1, 2, none⟩ = some (.slice A n c)) (first | (with_reducible exact HSS.out _ hX) | fail "KEEP") (first | (go_at_call 29; (with_reducible refine (HNM.out _ hX).mono ?_); rintro e w2 ⟨rfl, he2⟩; have hX := hX.trans he2) | (go_at_call 28; (with_reducible refine (HSG.out _).mono ?_); rintro e w3 ⟨A3, n3, c3, rfl, hs3, he3⟩; have hX := hX.trans he3) | fail "ARM")
    have HX3 := Lib.hid hX
    have HS3 := Lib.hid (show SlB w3 A3 n3 c3 sg from hs3)
    obtain ⟨q0, q1, q2⟩ : w3.cell? ⟨w.heap.size + 1, 0, none⟩ = some (.int .i64 ac) ∧ w3.cell? ⟨w.heap.size + 1, 1, none⟩ = some (.int .i64 sq) ∧ w3.cell? ⟨w.heap.size + 1, 2, none⟩ = some (.slice A n c) := (HSS.out w3 hX).2
    have HB4 := Lib.hid (HB2.out.ext HX3.out)
    have htz := st_there HB4.out
    clear hX hs3 he2 he3
    go_wp2_with (first | (with_reducible refine wpList_storeSt rfl (.tmp 4) (.tmp 23) rfl (w.heap.size + 2) (stA ac sq A n c A3 n3 c3) rfl rfl htz rfl (stA_all _ _ _ _ _ _ _ _) ?_))
    have HFIN := Lib.hid (show (⟨ac, sq, A, n, c, A3, n3, c3, L, sg⟩ : TxR).ok (w3.setCells (w.heap.size + 2) 0 (stA ac sq A n c A3 n3 c3).toList) from by
      have g := grown_setCells' w3 (w.heap.size + 2) (stA ac sq A n c A3 n3 c3).toList 0
      have hE := Below.setCells' (HE.out.trans HX3.out) (show w.heap.size ≤ w.heap.size + 2 by omega) (stA ac sq A n c A3 n3 c3).toList 0
      exact ⟨HSW.out.ext hE, HS3.out.grown g HB4.out⟩)
    have HVA := Lib.hid (show (⟨ac, sq, A, n, c, A3, n3, c3, L, sg⟩ : TxR).v = (ac, sq, L.map OpR.v, sig1 seed sq.toNat (txNm ac sq L)) from by unfold TxR.v; rw [HNE.out, HSGE.out])
    exact bodyPost_ret (v := .tuple #[.agg (stA ac sq A n c A3 n3 c3), .int .i64 0]) (retCV rfl _ _ (w.heap.size + 2) _ _ rfl rfl (run_loadVar_row _ _ _ _ _ (0, 0) _ (st_store HB4.out (stA ac sq A n c A3 n3 c3) rfl) Tryz.underlying31 rfl (by kernel_rfl))) rfl ⟨Below.setCells' (HE.out.trans HX3.out) (by omega) _ _, .inr ⟨HVV.out, ⟨ac, sq, A, n, c, A3, n3, c3, L, sg⟩, rfl, HFIN.out, HVA.out⟩⟩
/-- when a signature is right -/
def vSg (pub : UInt64) (T : TxR) : Bool := vTx T.ac T.sq T.L && (verU pub 1 (txNm T.ac T.sq T.L) T.sig && decide ((numAt T.sig 0 2 : Int) = T.sq))
theorem verU_len {pub m : UInt64} {l : List UInt8} (h : verU pub 1 m l = true) : l.length = 186 := by
  unfold verU at h
  rw [if_pos rfl] at h
  simp only [Bool.and_eq_true, decide_eq_true_eq] at h
  exact h.1
set_option maxRecDepth 100000 in
set_option maxHeartbeats 4000000 in
theorem txVerify_any (pub : UInt64) (T : TxR) (w : World) (hT : T.ok w) : Calls Tryz.prog 11 #[.agg (nmc pub), .agg (tA T)] w fun e w' => e = .returned (.bool (vSg pub T)) ∧ Ext w w' := by
  have hE := ((Ext.refl w).alloc' (.cells (nmc pub) 23)).alloc' (.cells (tA T) 31)
  obtain ⟨W0, hW0⟩ : ∃ W0, (w.alloc (.cells (nmc pub) 23)).alloc (.cells (tA T) 31) = W0 := ⟨_, rfl⟩
  have HB0 := Lib.hid ((Blk.new w 23 (nmc pub)).alloc (.cells (tA T) 31))
  have HB1 := Lib.hid (show Blk ((w.alloc (.cells (nmc pub) 23)).alloc (.cells (tA T) 31)) (w.heap.size + 1) 31 (tA T) from Blk.newAt _ _ _ _ (by simp))
  have HE := Lib.hid hE
  have HT := Lib.hid (hT.ext hE)
  rw [hW0] at HB0 HB1 HE HT
  have HSS := Lib.hid (fun (W : World) (h : Ext W0 W) => (⟨cells8 (HB0.out.ext h), st_facts (HB1.out.ext h)⟩ : (∀ i, i < 8 → W.cell? ⟨w.heap.size, i, none⟩ = some (.int .u8 (nb8 pub i))) ∧ W.cell? ⟨w.heap.size + 1, 0, none⟩ = some (.int .i64 T.ac) ∧ W.cell? ⟨w.heap.size + 1, 1, none⟩ = some (.int .i64 T.sq) ∧ W.cell? ⟨w.heap.size + 1, 2, none⟩ = some (.slice T.A T.n T.c) ∧ W.cell? ⟨w.heap.size + 1, 3, none⟩ = some (.slice T.S T.m T.d)))
  have HV := Lib.hid (fun (W : World) (h : Ext W0 W) => validate_any T.ac T.sq T.A T.n T.c T.L W (HT.out.ext h).ops)
  obtain ⟨nm, hnm⟩ : ∃ nm, txNm T.ac T.sq T.L = nm := ⟨_, rfl⟩
  have HNM := Lib.hid (fun (W : World) (h : Ext W0 W) => show Calls Tryz.prog 24 #[.agg (txA T.ac T.sq T.A T.n T.c)] W (fun e w' => e = .returned (.agg (nmc nm)) ∧ Ext W w') from by rw [← hnm]; exact txName_any T.ac T.sq T.A T.n T.c T.L W (HT.out.ext h).ops)
  have HVF := Lib.hid (fun (W : World) (h : Ext W0 W) => verify_any pub nm 1 T.S T.m T.d T.sig W (HT.out.ext h).sig)
  have HVS := Lib.hid (show vSg pub T = (vTx T.ac T.sq T.L && (verU pub 1 nm T.sig && decide ((numAt T.sig 0 2 : Int) = T.sq))) from by unfold vSg; rw [hnm])
  have hX := (Ext.refl W0).drew'
  have HRF := Lib.hid (Ext.refl W0)
  clear hE hT hnm
  cases hv : vTx T.ac T.sq T.L with
  | false =>
    rw [hv] at HV HVS
    have HV := Lib.hid (show ∀ (W : World) (h : Ext W0 W), Calls Tryz.prog 23 #[.agg (txA T.ac T.sq T.A T.n T.c)] W (fun e w' => e = .returned (.int .i64 1) ∧ Ext W w') from HV.out)
    have HVS := Lib.hid (show vSg pub T = false from HVS.out)
    obtain ⟨q, q0, q1, q2, q3⟩ := HSS.out W0.drew hX
    clear hv q
    go_enter Tryz.func11, Tryz.ntmps11
    go_wp2_with fail
    clear hW0
    first | go_region_with (first | (go_at_call 23; (with_reducible refine (HV.out _ hX).mono ?_); rintro e w7 ⟨rfl, he7⟩; have hX7 := hX.trans he7) | fail "ARM") | fail "REGION"
    all_goals (
      have HXF := Lib.hid (HE.out.trans hX7)
      clear q0 q1 q2 q3 hX7 he7 hX
      go_wp2_with fail
      go_ret
      exact ⟨by rw [HVS.out]; rfl, HXF.out⟩)
  | true =>
    rw [hv] at HV HVS
    have HV := Lib.hid (show ∀ (W : World) (h : Ext W0 W), Calls Tryz.prog 23 #[.agg (txA T.ac T.sq T.A T.n T.c)] W (fun e w' => e = .returned (.int .i64 0) ∧ Ext W w') from HV.out)
    have HLN := Lib.hid (@verU_len pub nm T.sig)
    obtain ⟨vr, hvr⟩ : ∃ vr, verU pub 1 nm T.sig = vr := ⟨_, rfl⟩
    rw [hvr] at HVF HVS HLN
    clear hv hvr
    go_enter Tryz.func11, Tryz.ntmps11
    go_wp2_with fail
    clear hW0
    go_region_held3 (fun w' => (∀ i, i < 8 → w'.cell? ⟨w.heap.size, i, none⟩ = some (.int .u8 (nb8 pub i))) ∧ w'.cell? ⟨w.heap.size + 1, 0, none⟩ = some (.int .i64 T.ac) ∧ w'.cell? ⟨w.heap.size + 1, 1, none⟩ = some (.int .i64 T.sq) ∧ w'.cell? ⟨w.heap.size + 1, 2, none⟩ = some (.slice T.A T.n T.c) ∧ w'.cell? ⟨w.heap.size + 1, 3, none⟩ = some (.slice T.S T.m T.d)) (first | (with_reducible exact HSS.out _ hX) | fail "KEEP") (first | (go_at_call 23; (with_reducible refine (HV.out _ hX).mono ?_); rintro e wa ⟨rfl, he⟩; have hX := hX.trans he; clear he) | (go_at_call 24; (with_reducible refine (HNM.out _ hX).mono ?_); rintro e wb ⟨rfl, he⟩; have hX := hX.trans he; clear he) | (go_at_call 31; (with_reducible refine (HVF.out _ hX).mono ?_); rintro e wc ⟨rfl, he⟩; have hX := hX.trans he; clear he) | fail "ARM")
    have HXW := Lib.hid hX
    obtain ⟨q, q0, q1, q2, q3⟩ := HSS.out _ hX
    have hsg := (HT.out.ext hX).sig
    have HXF := Lib.hid (HE.out.trans hX)
    clear q hX
    cases vr with
    | false =>
      clear hsg
      go_wp2_with fail
      go_ret
      exact ⟨by rw [HVS.out]; rfl, HXF.out⟩
    | true =>
      have hl := HLN.out rfl
      have HLF := Lib.hid (leaf_yes T.S T.m T.d T.sig _ hsg (by have := hsg.len; omega))
      obtain ⟨x, hx⟩ : ∃ x, numAt T.sig 0 2 = x := ⟨_, rfl⟩
      rw [hx] at HLF HVS
      clear hsg hl hx HLN
      go_wp2_with fail
      refine HLF.out.mono ?_
      rintro e wd ⟨rfl, rfl⟩
      go_wp2_with fail
      go_ret
      exact ⟨by rw [HVS.out]; simp; rw [Bool.eq_iff_iff, beq_iff_eq, decide_eq_true_eq], HXF.out⟩
end Go.Proofs.YtcfmlgbocdjabaaGreat
