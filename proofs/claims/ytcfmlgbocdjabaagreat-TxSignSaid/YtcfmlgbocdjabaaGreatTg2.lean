/- Sign of a transaction (the program's). -/
import Derived.Test.YtcfmlgbocdjabaaGreatTg1
import Derived.Test.YtcfmlgbocdjabaaGreatTe1
import Derived.Test.YtcfmlgbocdjabaaGreatKy1
namespace Go.Proofs.YtcfmlgbocdjabaaGreat
open Go.RowKit
set_option linter.unusedVariables false
set_option linter.unusedSimpArgs false
attribute [local go_sem ↓] Go.wp_at_zero Go.wp_at_succ

theorem sigU_in (seed m : UInt64) {sq : Int} (h0 : 0 ≤ sq) (h1 : sq ≤ 31) : sigU seed 1 sq m = some (sig1 seed sq.toNat m) := by
  unfold sigU
  rw [if_pos ⟨rfl, h0, by omega⟩]
/-- bytes do not lie in a transaction's variable -/
theorem SlB.grown {w w' : World} {A : Option Addr} {n c X : Nat} {l : List UInt8} {ac sq : Int} {A1 A2 : Option Addr} {n1 c1 n2 c2 : Nat} {t : TypeId} (h : SlB w A n c l) (hg : w.grownBy w' (some X)) (hb : Blk w X t (stA ac sq A1 n1 c1 A2 n2 c2)) : SlB w' A n c l := by
  refine ⟨h.len, h.le, h.cap, ?_⟩
  by_cases hx : bcs l = []
  · exact .inl hx
  · obtain ⟨b, o, e, hr, hlt⟩ := h.rd.at hx
    refine .inr ⟨b, o, e, rangeAt_keep hr (hg.block b hlt ?_)⟩
    intro e2
    injection e2 with e2
    subst e2
    cases l with
    | nil => exact hx rfl
    | cons x r =>
      have h0 := hr 0 (bv x) rfl
      rw [Nat.add_zero, hb.cell o] at h0
      match o, h0 with
      | 0, h0 => simp [bv] at h0
      | 1, h0 => simp [bv] at h0
      | 2, h0 => simp [bv] at h0
      | 3, h0 => simp [bv] at h0
      | o + 4, h0 => simp at h0
/-- what Sign returns -/
def SgOut (w : World) (seed : UInt64) (ac sq : Int) (L : List OpR) (e : Ending) (w' : World) : Prop :=
  Ext w w' ∧ ((vTx ac sq L = false ∧ e = .returned (.tuple #[.agg zero4, .int .i64 1])) ∨ (vTx ac sq L = true ∧ ∃ T : TxR, e = .returned (.tuple #[.agg (tA T), .int .i64 0]) ∧ T.ok w' ∧ T.v = (ac, sq, L.map OpR.v, sig1 seed sq.toNat (txNm ac sq L))))
set_option maxRecDepth 100000 in
set_option maxHeartbeats 4000000 in
theorem txSign_any (seed : UInt64) (ac sq : Int) (A : Option Addr) (n c : Nat) (L : List OpR) (w : World) (hS : SlO w A n c L) :
    Calls Tryz.prog 8 #[.agg (nmc seed), .agg (txA ac sq A n c)] w (SgOut w seed ac sq L) := by
  have hE := (((Ext.refl w).alloc' (.cells (nmc seed) 23)).alloc' (.cells (txA ac sq A n c) 26)).alloc' (.cells zero4 31)
  obtain ⟨W0, hW0⟩ : ∃ W0, ((w.alloc (.cells (nmc seed) 23)).alloc (.cells (txA ac sq A n c) 26)).alloc (.cells zero4 31) = W0 := ⟨_, rfl⟩
  have HB0 := Lib.hid (((Blk.new w 23 (nmc seed)).alloc (.cells (txA ac sq A n c) 26)).alloc (.cells zero4 31))
  have HB1 := Lib.hid (show Blk (((w.alloc (.cells (nmc seed) 23)).alloc (.cells (txA ac sq A n c) 26)).alloc (.cells zero4 31)) (w.heap.size + 1) 26 (txA ac sq A n c) from (Blk.newAt _ _ _ _ (by simp)).alloc _)
  have HB2 := Lib.hid (show Blk (((w.alloc (.cells (nmc seed) 23)).alloc (.cells (txA ac sq A n c) 26)).alloc (.cells zero4 31)) (w.heap.size + 2) 31 zero4 from Blk.newAt _ _ _ _ (by simp))
  have HE := Lib.hid hE
  have HS := Lib.hid (hS.ext hE)
  rw [hW0] at HB0 HB1 HB2 HE HS
  have q0 : W0.cell? ⟨w.heap.size + 1, 0, none⟩ = some (.int .i64 ac) := HB1.out.cell 0
  have q1 : W0.cell? ⟨w.heap.size + 1, 1, none⟩ = some (.int .i64 sq) := HB1.out.cell 1
  have q2 : W0.cell? ⟨w.heap.size + 1, 2, none⟩ = some (.slice A n c) := HB1.out.cell 2
  have HV := Lib.hid (validate_any ac sq A n c L _ HS.out)
  have hS0 := Lib.hid hS.len
  clear hS hE
  cases hv : vTx ac sq L with
  | false =>
    rw [hv] at HV
    have HV := Lib.hid (show Calls Tryz.prog 23 #[.agg (txA ac sq A n c)] W0 (fun e w' => e = .returned (.int .i64 1) ∧ Ext W0 w') from HV.out)
    have HVV := Lib.hid hv
    clear hv
    go_enter Tryz.func8, Tryz.ntmps8
    go_wp2_with fail
    refine HV.out.mono ?_
    rintro e w1 ⟨rfl, he1⟩
    have HB3 := Lib.hid (HB2.out.ext he1)
    have HE3 := Lib.hid (HE.out.trans he1)
    have htz := st_there HB3.out
    clear he1 hW0 q0 q1 q2
    go_wp2_with (first | (with_reducible refine wpList_storeSt rfl (.tmp 4) (.tmp 11) rfl (w.heap.size + 2) zero4 rfl rfl htz rfl (stA_all _ _ _ _ _ _ _ _) ?_))
    exact bodyPost_ret (v := .tuple #[.agg zero4, .int .i64 1]) (retCV rfl _ _ (w.heap.size + 2) _ _ rfl rfl (run_loadVar_row _ _ _ _ _ (0, 0) _ (st_store HB3.out zero4 rfl) Tryz.underlying31 rfl (by kernel_rfl))) rfl ⟨Below.setCells' HE3.out (by omega) _ _, .inl ⟨HVV.out, rfl⟩⟩
  | true =>
    rw [hv] at HV
    have HV := Lib.hid (show Calls Tryz.prog 23 #[.agg (txA ac sq A n c)] W0 (fun e w' => e = .returned (.int .i64 0) ∧ Ext W0 w') from HV.out)
    have HVV := Lib.hid hv
    clear hv
    go_enter Tryz.func8, Tryz.ntmps8
    go_wp2_with fail
    refine HV.out.mono ?_
    rintro e w1 ⟨rfl, he1⟩
    have HB0 := Lib.hid (HB0.out.ext he1)
    have HB1 := Lib.hid (HB1.out.ext he1)
    have HB2 := Lib.hid (HB2.out.ext he1)
    have HE := Lib.hid (HE.out.trans he1)
    have HS := Lib.hid (HS.out.ext he1)
    clear he1 hW0 q0 q1 q2 HV
    go_wp2_with fail
    have HSS := Lib.hid (fun (W : World) (h : Ext w1 W) => (⟨cells8 (HB0.out.ext h), (HB1.out.ext h).cell 0, (HB1.out.ext h).cell 1, (HB1.out.ext h).cell 2⟩ : (∀ i, i < 8 → W.cell? ⟨w.heap.size, i, none⟩ = some (.int .u8 (nb8 seed i))) ∧ W.cell? ⟨w.heap.size + 1, 0, none⟩ = some (.int .i64 ac) ∧ W.cell? ⟨w.heap.size + 1, 1, none⟩ = some (.int .i64 sq) ∧ W.cell? ⟨w.heap.size + 1, 2, none⟩ = some (.slice A n c)))
    have hX := (Ext.refl w1).drew'
    have HNM := Lib.hid (fun (W : World) (h : Ext w1 W) => txName_any ac sq A n c L W (HS.out.ext h))
    obtain ⟨hh, hops⟩ := vTx_of HVV.out
    have HSG := Lib.hid (fun (W : World) => show Calls Tryz.prog 25 #[.agg (nmc seed), .int .i64 1, .int .i64 sq, .agg (nmc (txNm ac sq L))] W (SigOut W (some (sig1 seed sq.toNat (txNm ac sq L)))) from by rw [← sigU_in seed _ hh.2.2.1 hh.2.2.2.1]; exact sign5_any seed _ 1 sq W)
    have HN4 := Lib.hid (show n ≤ 4 by have := hS0.out; omega)
    have HBD := Lib.hid (show ∀ R, R ∈ L → R.n1 ≤ 100000 ∧ R.n2 ≤ 100000 from fun R hR => by
      obtain ⟨k, hk, rfl⟩ := mem_nthO hR
      have a := vOp_pre (hops k hk)
      have b := vOp_prf (hops k hk)
      omega)
    clear hh hops
    obtain ⟨sg, hsg⟩ : ∃ sg, sig1 seed sq.toNat (txNm ac sq L) = sg := ⟨_, rfl⟩
    rw [hsg] at HSG
    have HSGE := Lib.hid hsg
    clear hsg
    obtain ⟨nm, hnm⟩ : ∃ nm, txNm ac sq L = nm := ⟨_, rfl⟩
    rw [hnm] at HNM HSG HSGE
    have HNE := Lib.hid hnm
    clear hnm
    go_region_held3 (fun w' => (∀ i, i < 8 → w'.cell? ⟨w.heap.size, i, none⟩ = some (.int .u8 (nb8 seed i))) ∧ w'.cell? ⟨w.heap.size + 1, 0, none⟩ = some (.int .i64 ac) ∧ w'.cell? ⟨w.heap.size + 1, 1, none⟩ = some (.int .i64 sq) ∧ w'.cell? ⟨w.heap.size + 1, 2, none⟩ = some (.slice A n c)) (first | (with_reducible exact HSS.out _ hX) | fail "KEEP") (first | (go_at_call 24; (with_reducible refine (HNM.out _ hX).mono ?_); rintro e w2 ⟨rfl, he2⟩; have hX := hX.trans he2) | (go_at_call 25; (with_reducible refine (HSG.out _).mono ?_); rintro e w3 ⟨A3, n3, c3, rfl, hs3, he3⟩; have hX := hX.trans he3) | fail "ARM")
    have HX3 := Lib.hid hX
    have HS3 := Lib.hid (show SlB w3 A3 n3 c3 sg from hs3)
    have HCL := Lib.hid (txClone_any ac sq A n c L w3 (HS.out.ext hX) (by have := HN4.out; omega) HBD.out)
    obtain ⟨q0, q1, q2⟩ : w3.cell? ⟨w.heap.size + 1, 0, none⟩ = some (.int .i64 ac) ∧ w3.cell? ⟨w.heap.size + 1, 1, none⟩ = some (.int .i64 sq) ∧ w3.cell? ⟨w.heap.size + 1, 2, none⟩ = some (.slice A n c) := (HSS.out w3 hX).2
    clear hX hs3 he2 he3
    go_wp2_with fail
    refine HCL.out.mono ?_
    rintro e w4 ⟨A4, c4, M, rfl, hM, hMo, hMv, he4⟩
    have HM := Lib.hid hM
    have HMO := Lib.hid hMo
    have HMV := Lib.hid hMv
    have HX4 := Lib.hid (HX3.out.trans he4)
    have HS4 := Lib.hid (HS3.out.ext he4)
    have HB4 := Lib.hid (HB2.out.ext HX4.out)
    have htz := st_there HB4.out
    clear hM hMo hMv he4 q0 q1 q2
    go_wp2_with (first | (with_reducible refine wpList_storeSt rfl (.tmp 4) (.tmp 27) rfl (w.heap.size + 2) (stA ac sq A4 n c4 A3 n3 c3) rfl rfl htz rfl (stA_all _ _ _ _ _ _ _ _) ?_))
    have HFIN := Lib.hid (show (⟨ac, sq, A4, n, c4, A3, n3, c3, M, sg⟩ : TxR).ok (w4.setCells (w.heap.size + 2) 0 (stA ac sq A4 n c4 A3 n3 c3).toList) from by
      have g := grown_setCells' w4 (w.heap.size + 2) (stA ac sq A4 n c4 A3 n3 c3).toList 0
      have ho := HM.out.kept g (.inr (Ne.symm (own_other HM.out HB4.out (by decide))))
      have hl : M.length = n := by have := HM.out.1; rw [ocs_length] at this; omega
      exact ⟨⟨hl, (own_cap ho).1, (own_cap ho).2, Rd.of_own ho, fun R hR => ((HMO.out R hR).kept g HB4.out (by decide)).ok⟩, HS4.out.grown g HB4.out⟩)
    have HVA := Lib.hid (show (⟨ac, sq, A4, n, c4, A3, n3, c3, M, sg⟩ : TxR).v = (ac, sq, L.map OpR.v, sig1 seed sq.toNat (txNm ac sq L)) from by unfold TxR.v; rw [HMV.out, HNE.out, HSGE.out])
    exact bodyPost_ret (v := .tuple #[.agg (stA ac sq A4 n c4 A3 n3 c3), .int .i64 0]) (retCV rfl _ _ (w.heap.size + 2) _ _ rfl rfl (run_loadVar_row _ _ _ _ _ (0, 0) _ (st_store HB4.out (stA ac sq A4 n c4 A3 n3 c3) rfl) Tryz.underlying31 rfl (by kernel_rfl))) rfl ⟨Below.setCells' (HE.out.trans HX4.out) (by omega) _ _, .inr ⟨HVV.out, ⟨ac, sq, A4, n, c4, A3, n3, c3, M, sg⟩, rfl, HFIN.out, HVA.out⟩⟩
end Go.Proofs.YtcfmlgbocdjabaaGreat
