/- EqualFunc over equalOp, Equal (the program's); large, code (the law's). -/
import Derived.Test.YtcfmlgbocdjabaaTx16
import Derived.Test.YtcfmlgbocdjabaaPlB
import Derived.Test.YtcfmlgbocdjabaaTx12b
namespace Go.Proofs.Ytcfmlgbocdjabaa
open Go.RowKit
set_option linter.unusedVariables false
set_option linter.unusedSimpArgs false
attribute [local go_sem ↓] Go.wp_at_zero Go.wp_at_succ

theorem egEq : ∀ args w, (callFunc 82 args).run Try.prog w = .ok (.enter 82 args) w := fun _ _ => by kernel_rfl
/-- an operation is stored into a variable that is new, its block named -/
theorem wpList_newOg {o : Oper} {a : Act} {w : World} {ops : Array Oper} {rest : List Oper} {Q : Exit → Act → World → Prop} (hgd : o.guard = none) (x y : Operand) (ho : o.op = .store 114 x y) (cs : Array Value) (hcs : cs.size = 23) (R : OpR) (g : Nat) (hg : w.heap.size = g) (hx : a.eval x = .pointer (some ⟨g, 0, none⟩)) (hy : a.eval y = .agg (opA R))
    (h : wpList Try.prog ops Q rest (a.put o.dst undef) (w.alloc (.cells (opA R) 114))) : wpList Try.prog ops Q (o :: rest) a (w.alloc (.cells cs 114)) := by
  subst hg; exact wpList_newO hgd x y ho cs hcs R hx hy h
set_option maxRecDepth 100000 in
set_option maxHeartbeats 4000000 in
theorem equalFunc_any (A : Option Addr) (n c : Nat) (L : List OpR) (A' : Option Addr) (n' c' : Nat) (M : List OpR) (w : World) (hS : SlO w A n c L) (hS' : SlO w A' n' c' M) :
    Calls Try.prog 81 #[.slice A n c, .slice A' n' c', .func (.func 82) #[] #[]] w fun e w' => e = .returned (.bool (eqL L M)) ∧ Ext w w' := by
  have hle := hS.le
  have hcap := hS.cap
  have hle' := hS'.le
  have hcap' := hS'.cap
  have HL := Lib.hid hS.len
  have HM := Lib.hid hS'.len
  have HS := Lib.hid hS
  have HS' := Lib.hid hS'
  have eg := egEq
  clear hS hS'
  by_cases h3 : n = n'
  · subst h3
    have HCA := Lib.hid (show n = 0 ∨ ((∃ b o, A = some ⟨b, o, none⟩ ∧ w.rangeAt b o (ocs L) ∧ b < w.heap.size) ∧ ∃ b o, A' = some ⟨b, o, none⟩ ∧ w.rangeAt b o (ocs M) ∧ b < w.heap.size) from by
      rcases Nat.eq_zero_or_pos n with h0 | h0
      · exact .inl h0
      · exact .inr ⟨HS.out.at h0, HS'.out.at h0⟩)
    go_enter Try.func81, Try.ntmps81
    go_wp2_with fail
    go_loopw [17] (fun i wr => ∃ k : Nat, k ≤ n ∧ i = .int .i64 (k : Int) ∧ Hid (∀ j, j < k → eqV (nthO L j).v (nthO M j).v = true) ∧ Hid (Ext w wr)) (fun i _ => n - (intOf i).toNat)
    case atStart => exact ⟨0, Nat.zero_le _, rfl, Lib.hid (fun j hj => by omega), Lib.hid (Ext.refl _)⟩
    case round =>
      obtain ⟨k, hk, rfl, HP, HX⟩ := hrel
      by_cases hlt : k < n
      · obtain ⟨⟨b, o, rfl, hr0, hb0⟩, b', o', rfl, hr0', hb0'⟩ : (∃ b o, A = some ⟨b, o, none⟩ ∧ w.rangeAt b o (ocs L) ∧ b < w.heap.size) ∧ ∃ b o, A' = some ⟨b, o, none⟩ ∧ w.rangeAt b o (ocs M) ∧ b < w.heap.size := by
          rcases HCA.out with h0 | h0
          · omega
          · exact h0
        have HN := Lib.hid (fun (h : eqV (nthO L k).v (nthO M k).v = false) => eqL_at (L := L) (M := M) (by rw [HL.out]; exact hlt) h)
        have HY := Lib.hid (fun (hx : eqV (nthO L k).v (nthO M k).v = true) => show ∀ j, j < k + 1 → eqV (nthO L j).v (nthO M j).v = true from fun j hj => by
          rcases Nat.lt_or_ge j k with h | h
          · exact HP.out j h
          · obtain rfl : j = k := by omega
            exact hx)
        have hr1 := op_at (rangeAt_keep hr0 (HX.out.block b hb0)) (k := k) (by rw [HL.out]; exact hlt)
        have HK1 := Lib.hid (HS.out.nth hlt)
        have HK2 := Lib.hid (HS'.out.nth hlt)
        have i0 : (0 : Int) ≤ (k : Int) := by omega
        have i1 : (k : Int) < (n : Int) := by omega
        have hp2 := Lib.hid (fun (W : World) (h : Ext w W) => op_at (rangeAt_keep hr0' (h.block b' hb0')) (k := k) (by rw [HM.out]; exact hlt))
        obtain ⟨R, hR⟩ : ∃ R, nthO L k = R := ⟨_, rfl⟩
        obtain ⟨Q, hQ⟩ : ∃ Q, nthO M k = Q := ⟨_, rfl⟩
        rw [hR, hQ] at HN HY
        rw [hR] at hr1 HK1
        rw [hQ] at hp2 HK2
        have e1 := (Ext.refl wr).alloc' (.cells (opA R) 114)
        have e2 := (Ext.refl (wr.alloc (.cells (opA R) 114))).alloc' (.cells (opA Q) 114)
        have hr2 := hp2.out _ (HX.out.trans e1)
        have hn1 : ((wr.alloc (.cells (opA R) 114)).alloc (.cells (opA Q) 114)).rangeAt wr.heap.size 0 (opL R) := op_range ((Blk.new wr 114 (opA R)).ext e2)
        have hn2 : ((wr.alloc (.cells (opA R) 114)).alloc (.cells (opA Q) 114)).rangeAt (wr.heap.size + 1) 0 (opL Q) := op_range (Blk.newAt _ _ _ _ (by simp))
        have HX2 := Lib.hid ((HX.out.trans e1).trans e2)
        have hsz : (wr.alloc (.cells (opA R) 114)).heap.size = wr.heap.size + 1 := by simp
        have HSO := Lib.hid (equalOp_any R Q _ (HK1.out.ext HX2.out) (HK2.out.ext HX2.out))
        clear hR hQ hr0 hb0 hr0' hb0' e1 e2 hp2
        go_wp2_with (first | (with_reducible refine wpList_loadO rfl (.tmp 20) rfl b (o + k * 23) rfl R hr1 ?_) | (with_reducible refine wpList_newO rfl (.tmp 8) (.tmp 21) rfl _ rfl R rfl rfl ?_) | (with_reducible refine wpList_loadO rfl (.tmp 24) rfl b' (o' + k * 23) rfl Q hr2 ?_) | (with_reducible refine wpList_newOg rfl (.tmp 9) (.tmp 25) rfl _ rfl Q (wr.heap.size + 1) hsz rfl rfl ?_) | (with_reducible refine wpList_loadO rfl (.tmp 8) rfl wr.heap.size 0 rfl R hn1 ?_) | (with_reducible refine wpList_loadO rfl (.tmp 9) rfl (wr.heap.size + 1) 0 rfl Q hn2 ?_))
        refine HSO.out.mono ?_
        rintro e w1 ⟨rfl, he1⟩
        have HX3 := Lib.hid (HX2.out.trans he1)
        clear he1 hr1 hr2 hn1 hn2 hsz
        cases hv : eqV R.v Q.v with
        | true =>
          have HY' := Lib.hid (HY.out hv)
          clear hv
          go_wp2_with fail
          go_roundw
          case rel => exact ⟨k + 1, by omega, by go_num, HY', HX3⟩
          case measure => simp [intOf]; omega
        | false =>
          have HN' := Lib.hid (HN.out hv)
          clear hv
          go_wp2_with fail
          go_ret
          exact ⟨by rw [HN'.out]; rfl, HX3.out⟩
      · obtain rfl : k = n := by omega
        have HY := Lib.hid (show eqL L M = true from eqL_yes (by rw [HL.out, HM.out]) (fun j hj => HP.out j (by rw [HL.out] at hj; exact hj)))
        go_wp2_with fail
        go_ret
        exact ⟨by rw [HY.out]; rfl, HX.out⟩
  · have HV := Lib.hid (show eqL L M = false from eqL_len (by rw [HL.out, HM.out]; exact h3))
    have x1 : ((n : Int) != (n' : Int)) = true := by simp; omega
    have x2 : ((n : Int) == (n' : Int)) = false := by simp; omega
    have x3 : decide ((n : Int) = (n' : Int)) = false := by simp; omega
    clear h3
    go_enter Try.func81, Try.ntmps81
    go_wp2_with fail
    go_ret
    exact ⟨by rw [HV.out]; rfl, Ext.refl _⟩
set_option maxRecDepth 100000 in
set_option maxHeartbeats 4000000 in
theorem equalP_any (T U : TxR) (w : World) (hT : T.ok w) (hU : U.ok w) :
    Calls Try.prog 29 #[.agg (tA T), .agg (tA U)] w fun e w' => e = .returned (.bool (eqT T U)) ∧ Ext w w' := by
  have hE := ((Ext.refl w).alloc' (.cells (tA T) 50)).alloc' (.cells (tA U) 50)
  have HB1 := Lib.hid ((Blk.new w 50 (tA T)).alloc (.cells (tA U) 50))
  have HB2 := Lib.hid (show Blk ((w.alloc (.cells (tA T) 50)).alloc (.cells (tA U) 50)) (w.heap.size + 1) 50 (tA U) from Blk.newAt _ _ _ _ (by simp))
  have HE := Lib.hid hE
  have HS := Lib.hid (equalFunc_any T.A T.n T.c T.L U.A U.n U.c U.L _ (hT.ops.ext hE) (hU.ops.ext hE))
  have HG1 := Lib.hid (hT.sig.ext hE)
  have HG2 := Lib.hid (hU.sig.ext hE)
  obtain ⟨b1, e1⟩ : ∃ b, decide (T.ac = U.ac) = b := ⟨_, rfl⟩
  obtain ⟨b2, e2⟩ : ∃ b, decide (T.sq = U.sq) = b := ⟨_, rfl⟩
  obtain ⟨b3, e3⟩ : ∃ b, eqL T.L U.L = b := ⟨_, rfl⟩
  have x1 : (T.ac == U.ac) = b1 := by rw [← e1]; exact (by rw [Bool.eq_iff_iff]; simp)
  have x2 : (T.sq == U.sq) = b2 := by rw [← e2]; exact (by rw [Bool.eq_iff_iff]; simp)
  have HV := Lib.hid (show eqT T U = ((b1 && (b2 && b3)) && decide (T.sig = U.sig)) from by rw [← e1, ← e2, ← e3]; rfl)
  rw [e3] at HS
  have hc : b1 = false ∨ (b1 = true ∧ b2 = false) ∨ (b1 = true ∧ b2 = true ∧ b3 = false) ∨ (b1 = true ∧ b2 = true ∧ b3 = true) := by
    cases b1 <;> cases b2 <;> cases b3 <;> simp
  clear hT hU hE e3
  rcases hc with rfl | ⟨rfl, rfl⟩ | ⟨rfl, rfl, rfl⟩ | ⟨rfl, rfl, rfl⟩
  · go_enter Try.func29, Try.ntmps29
    go_wp2_with fail
    go_ret
    exact ⟨by rw [HV.out]; rfl, HE.out⟩
  · go_enter Try.func29, Try.ntmps29
    go_wp2_with fail
    go_ret
    exact ⟨by rw [HV.out]; rfl, HE.out⟩
  · go_enter Try.func29, Try.ntmps29
    go_wp2_with fail
    refine HS.out.mono ?_
    rintro e w1 ⟨rfl, he1⟩
    go_wp2_with fail
    go_ret
    exact ⟨by rw [HV.out]; rfl, HE.out.trans he1⟩
  · go_enter Try.func29, Try.ntmps29
    go_wp2_with fail
    refine HS.out.mono ?_
    rintro e w1 ⟨rfl, he1⟩
    have q3 := (st_facts (HB1.out.ext he1)).2.2.2
    have q7 := (st_facts (HB2.out.ext he1)).2.2.2
    have HBE := Lib.hid (bytesEqual_any T.S T.m T.d T.sig U.S U.m U.d U.sig w1 (HG1.out.ext he1) (HG2.out.ext he1))
    go_wp2_with fail
    refine HBE.out.mono ?_
    rintro e w2 ⟨rfl, rfl⟩
    go_wp2_with fail
    go_ret
    exact ⟨by rw [HV.out]; simp, HE.out.trans he1⟩
end Go.Proofs.Ytcfmlgbocdjabaa
/- large, code (the law's); Name, TxName. -/
namespace Go.Proofs.Ytcfmlgbocdjabaa
open Go.RowKit
set_option linter.unusedVariables false
set_option linter.unusedSimpArgs false
attribute [local go_sem ↓] Go.wp_at_zero Go.wp_at_succ

theorem code_any (b : Bool) (w : World) : Calls Try.prog 33 #[.bool b] w fun e w' => e = .returned (.int .i64 (codeT b)) ∧ w = w' := by
  cases b with
  | false =>
    go_enter Try.func33, Try.ntmps33
    go_wp2_with fail
    go_ret
    exact ⟨rfl, rfl⟩
  | true =>
    go_enter Try.func33, Try.ntmps33
    go_wp2_with fail
    go_ret
    exact ⟨rfl, rfl⟩
set_option maxRecDepth 100000 in
set_option maxHeartbeats 4000000 in
theorem large_any (ac sq : Int) (A : Option Addr) (n c : Nat) (L : List OpR) (w : World) (hS : SlO w A n c L) :
    Calls Try.prog 22 #[.agg (txA ac sq A n c)] w (LongOut w) := by
  have hle := hS.le
  have hcap := hS.cap
  have HL := Lib.hid hS.len
  have hE := (Ext.refl w).alloc' (.cells (txA ac sq A n c) 48)
  obtain ⟨w0, hw0⟩ : ∃ w0, w.alloc (.cells (txA ac sq A n c) 48) = w0 := ⟨_, rfl⟩
  have q0 : (w.alloc (.cells (txA ac sq A n c) 48)).cell? ⟨w.heap.size, 2, none⟩ = some (.slice A n c) := (Blk.new w 48 (txA ac sq A n c)).cell 2
  have HE := Lib.hid hE
  have HS := Lib.hid (hS.ext hE)
  rw [hw0] at HE HS q0
  clear hS hE
  by_cases h50 : 50 < n
  · have d1 : (50 : Int) < (n : Int) := by omega
    go_enter Try.func22, Try.ntmps22
    go_wp2_with fail
    go_ret
    exact ⟨⟨_, rfl⟩, HE.out⟩
  · have d1 : decide ((50 : Int) < (n : Int)) = false := decide_eq_false (by omega)
    go_enter Try.func22, Try.ntmps22
    go_wp2_with fail
    clear hw0
    go_loop [3] (fun i => ∃ k : Nat, k ≤ n ∧ i = .int .i64 (k : Int)) (fun i => n - (intOf i).toNat)
    case atStart => exact ⟨0, Nat.zero_le _, rfl⟩
    case round =>
      obtain ⟨k, hk, rfl⟩ := hrel
      by_cases hlt : k < n
      · obtain ⟨b, o, rfl, hr, hb⟩ := HS.out.at (by omega)
        have hrt := op_at hr (k := k) (by rw [HL.out]; exact hlt)
        have hok := HS.out.nth hlt
        have i0 : (0 : Int) ≤ (k : Int) := by omega
        have i1 : (k : Int) < (n : Int) := by omega
        obtain ⟨R, hR⟩ : ∃ R, nthO L k = R := ⟨_, rfl⟩
        rw [hR] at hrt hok
        obtain ⟨r1, r2⟩ := opL_cells hrt
        have m1 := hok.pre.le
        have m2 := hok.pre.cap
        have m3 := hok.prf.le
        have m4 := hok.prf.cap
        clear hr hb hrt hok hR
        by_cases hC : 5000 < R.n2
        · have d4 : (5000 : Int) < (R.n2 : Int) := by omega
          go_wp2_with fail
          go_ret
          exact ⟨⟨_, rfl⟩, HE.out⟩
        · have d4 : decide ((5000 : Int) < (R.n2 : Int)) = false := decide_eq_false (by omega)
          by_cases hD : 5000 < R.n1
          · have d5 : (5000 : Int) < (R.n1 : Int) := by omega
            go_wp2_with fail
            go_ret
            exact ⟨⟨_, rfl⟩, HE.out⟩
          · have d5 : decide ((5000 : Int) < (R.n1 : Int)) = false := decide_eq_false (by omega)
            go_wp2_with fail
            go_round
            case rel => exact ⟨k + 1, by omega, by go_num⟩
            case measure => simp [intOf]; omega
      · obtain rfl : k = n := by omega
        go_wp2_with fail
        go_ret
        exact ⟨⟨_, rfl⟩, HE.out⟩
/-- the name of a transaction -/
def txNm (ac sq : Int) (L : List OpR) : UInt64 := if vTx ac sq L = true then tagU 80 (encTx ac sq L) else 0
set_option maxRecDepth 100000 in
set_option maxHeartbeats 2000000 in
theorem txName_any (ac sq : Int) (A : Option Addr) (n c : Nat) (L : List OpR) (w : World) (hS : SlO w A n c L) :
    Calls Try.prog 31 #[.agg (txA ac sq A n c)] w fun e w' => e = .returned (.agg (nmc (txNm ac sq L))) ∧ Ext w w' := by
  have hE := ((Ext.refl w).alloc' (.cells (txA ac sq A n c) 48)).alloc' (.cells zcs.toArray 23)
  have HB1 := Lib.hid ((Blk.new w 48 (txA ac sq A n c)).alloc (.cells zcs.toArray 23))
  have HB2 := Lib.hid (show Blk ((w.alloc (.cells (txA ac sq A n c) 48)).alloc (.cells zcs.toArray 23)) (w.heap.size + 1) 23 zcs.toArray from Blk.newAt _ _ _ _ (by simp))
  have HE := Lib.hid hE
  have HS := Lib.hid (hS.ext hE)
  have HV := Lib.hid (validate_any ac sq A n c L _ HS.out)
  cases hv : vTx ac sq L with
  | false =>
    have HN := Lib.hid (show txNm ac sq L = 0 by unfold txNm; rw [if_neg (by rw [hv]; decide)])
    rw [hv] at HV
    have HV := Lib.hid (show Calls Try.prog 32 #[.agg (txA ac sq A n c)] _ (fun e w' => e = .returned (.int .i64 1) ∧ Ext _ w') from HV.out)
    clear hS hE hv
    go_enter Try.func31, Try.ntmps31
    go_wp2_with fail
    refine HV.out.mono ?_
    rintro e w1 ⟨rfl, he1⟩
    have hb := HB2.out.ext he1
    have hst := run_storeN hb 0
    rw [show (nmc 0).toList = zcs from by rw [← zcs_nmc]] at hst
    have ht := thereZ hb
    go_wp2_with (with_reducible refine wpList_storeN rfl (.tmp 2) (.tmp 6) rfl (w.heap.size + 1) 0 0 rfl rfl ht ?_)
    exact bodyPost_ret (v := .agg (nmc 0)) (retN rfl _ _ (w.heap.size + 1) 0 rfl (by first | exact blkN hb 0 | exact blk_zero hb)) rfl ⟨by rw [HN.out], Below.setCells' (HE.out.trans he1) (by omega) _ _⟩
  | true =>
    have HN := Lib.hid (show txNm ac sq L = tagU 80 (encTx ac sq L) by unfold txNm; rw [if_pos hv])
    have HEN := Lib.hid (fun (W : World) (h : Ext ((w.alloc (.cells (txA ac sq A n c) 48)).alloc (.cells zcs.toArray 23)) W) => encode_any ac sq A n c L W (HS.out.ext h) hv)
    rw [hv] at HV
    have HV := Lib.hid (show Calls Try.prog 32 #[.agg (txA ac sq A n c)] _ (fun e w' => e = .returned (.int .i64 0) ∧ Ext _ w') from HV.out)
    clear hS hE hv
    go_enter Try.func31, Try.ntmps31
    go_wp2_with fail
    refine HV.out.mono ?_
    rintro e w1 ⟨rfl, he1⟩
    have HX1 := Lib.hid he1
    obtain ⟨q0, q1, q2⟩ := tx_facts (HB1.out.ext he1)
    clear he1
    go_wp2_with fail
    refine (HEN.out _ HX1.out).mono ?_
    rintro e w2 ⟨A2, n2, c2, rfl, hO2, hn2, he2⟩
    have HX2 := Lib.hid (HX1.out.trans he2)
    have HS2 := Lib.hid hO2.sl
    clear hO2 he2 q0 q1 q2
    go_wp2_with fail
    refine (tagged_any 80 A2 n2 c2 _ _ HS2.out (by omega)).mono ?_
    rintro e w3 ⟨rfl, he3⟩
    have hb := HB2.out.ext (HX2.out.trans he3)
    have hst := run_storeN hb (tagU 80 (encTx ac sq L))
    go_wp2_with fail
    exact bodyPost_ret (v := .agg (nmc (tagU 80 (encTx ac sq L)))) (retN rfl _ _ (w.heap.size + 1) _ rfl (blkN hb _)) rfl ⟨by rw [HN.out], Below.setCells' (HE.out.trans (HX2.out.trans he3)) (by omega) _ _⟩
end Go.Proofs.Ytcfmlgbocdjabaa
/- TxName (the reference's), LockName. -/
namespace Go.Proofs.Ytcfmlgbocdjabaa
open Go.RowKit
set_option linter.unusedVariables false
set_option linter.unusedSimpArgs false
attribute [local go_sem ↓] Go.wp_at_zero Go.wp_at_succ

set_option maxRecDepth 100000 in
set_option maxHeartbeats 2000000 in
theorem refTxName_any (ac sq : Int) (A : Option Addr) (n c : Nat) (L : List OpR) (w : World) (hS : SlO w A n c L) :
    Calls Try.prog 35 #[.agg (txA ac sq A n c)] w fun e w' => e = .returned (.agg (nmc (txNm ac sq L))) ∧ Ext w w' := by
  have hE := ((Ext.refl w).alloc' (.cells (txA ac sq A n c) 48)).alloc' (.cells zcs.toArray 23)
  have HB1 := Lib.hid ((Blk.new w 48 (txA ac sq A n c)).alloc (.cells zcs.toArray 23))
  have HB2 := Lib.hid (show Blk ((w.alloc (.cells (txA ac sq A n c) 48)).alloc (.cells zcs.toArray 23)) (w.heap.size + 1) 23 zcs.toArray from Blk.newAt _ _ _ _ (by simp))
  have HE := Lib.hid hE
  have HS := Lib.hid (hS.ext hE)
  have HV := Lib.hid (refValidTx_any ac sq A n c L _ HS.out)
  cases hv : vTx ac sq L with
  | false =>
    have HN := Lib.hid (show txNm ac sq L = 0 by unfold txNm; rw [if_neg (by rw [hv]; decide)])
    rw [hv] at HV
    have HV := Lib.hid (show Calls Try.prog 34 #[.agg (txA ac sq A n c)] _ (fun e w' => e = .returned (.bool false) ∧ Ext _ w') from HV.out)
    clear hS hE hv
    go_enter Try.func35, Try.ntmps35
    go_wp2_with fail
    refine HV.out.mono ?_
    rintro e w1 ⟨rfl, he1⟩
    have hb := HB2.out.ext he1
    have hst := run_storeN hb 0
    rw [show (nmc 0).toList = zcs from by rw [← zcs_nmc]] at hst
    have ht := thereZ hb
    go_wp2_with (with_reducible refine wpList_storeN rfl (.tmp 2) (.tmp 6) rfl (w.heap.size + 1) 0 0 rfl rfl ht ?_)
    exact bodyPost_ret (v := .agg (nmc 0)) (retN rfl _ _ (w.heap.size + 1) 0 rfl (by first | exact blkN hb 0 | exact blk_zero hb)) rfl ⟨by rw [HN.out], Below.setCells' (HE.out.trans he1) (by omega) _ _⟩
  | true =>
    have HN := Lib.hid (show txNm ac sq L = tagU 80 (encTx ac sq L) by unfold txNm; rw [if_pos hv])
    have HEN := Lib.hid (fun (W : World) (h : Ext ((w.alloc (.cells (txA ac sq A n c) 48)).alloc (.cells zcs.toArray 23)) W) => refTxBytes_any ac sq A n c L W (HS.out.ext h) hv)
    rw [hv] at HV
    have HV := Lib.hid (show Calls Try.prog 34 #[.agg (txA ac sq A n c)] _ (fun e w' => e = .returned (.bool true) ∧ Ext _ w') from HV.out)
    clear hS hE hv
    go_enter Try.func35, Try.ntmps35
    go_wp2_with fail
    refine HV.out.mono ?_
    rintro e w1 ⟨rfl, he1⟩
    have HX1 := Lib.hid he1
    obtain ⟨q0, q1, q2⟩ := tx_facts (HB1.out.ext he1)
    clear he1
    go_wp2_with fail
    refine (HEN.out _ HX1.out).mono ?_
    rintro e w2 ⟨A2, n2, c2, rfl, hO2, hn2, he2⟩
    have HX2 := Lib.hid (HX1.out.trans he2)
    have HS2 := Lib.hid hO2
    clear hO2 he2 q0 q1 q2
    go_wp2_with fail
    refine (refTagged_any 80 A2 n2 c2 _ _ HS2.out (by omega)).mono ?_
    rintro e w3 ⟨rfl, he3⟩
    have hb := HB2.out.ext (HX2.out.trans he3)
    have hst := run_storeN hb (tagU 80 (encTx ac sq L))
    go_wp2_with fail
    exact bodyPost_ret (v := .agg (nmc (tagU 80 (encTx ac sq L)))) (retN rfl _ _ (w.heap.size + 1) _ rfl (blkN hb _)) rfl ⟨by rw [HN.out], Below.setCells' (HE.out.trans (HX2.out.trans he3)) (by omega) _ _⟩
/-- the name of the lock that an operation opens -/
def lockNm (ac sq : Int) (L : List OpR) (op : Int) : UInt64 := if vTx ac sq L = true ∧ 0 ≤ op ∧ op < (L.length : Int) ∧ (nthO L op.toNat).k = 2 then tagU 81 (nmb (txNm ac sq L) ++ [toB op]) else 0
set_option maxRecDepth 100000 in
set_option maxHeartbeats 4000000 in
theorem lockName_any (ac sq : Int) (A : Option Addr) (n c : Nat) (L : List OpR) (op : Int) (w : World) (hS : SlO w A n c L) :
    Calls Try.prog 36 #[.agg (txA ac sq A n c), .int .i64 op] w fun e w' => e = .returned (.agg (nmc (lockNm ac sq L op))) ∧ Ext w w' := by
  have hle := hS.le
  have hcap := hS.cap
  have hlen := hS.len
  have hE := ((Ext.refl w).alloc' (.cells (txA ac sq A n c) 48)).alloc' (.cells zcs.toArray 23)
  have HB1 := Lib.hid ((Blk.new w 48 (txA ac sq A n c)).alloc (.cells zcs.toArray 23))
  have HB2 := Lib.hid (show Blk ((w.alloc (.cells (txA ac sq A n c) 48)).alloc (.cells zcs.toArray 23)) (w.heap.size + 1) 23 zcs.toArray from Blk.newAt _ _ _ _ (by simp))
  have HE := Lib.hid hE
  have HS := Lib.hid (hS.ext hE)
  have HV := Lib.hid (validate_any ac sq A n c L _ HS.out)
  by_cases hall : vTx ac sq L = true ∧ 0 ≤ op ∧ op < (L.length : Int) ∧ (nthO L op.toNat).k = 2
  · obtain ⟨hv, h0, h1, h2⟩ := hall
    have HN := Lib.hid (show lockNm ac sq L op = tagU 81 (nmb (txNm ac sq L) ++ [toB op]) by unfold lockNm; rw [if_pos ⟨hv, h0, h1, h2⟩])
    rw [hlen] at h1
    rw [hv] at HV
    have HV := Lib.hid (show Calls Try.prog 32 #[.agg (txA ac sq A n c)] _ (fun e w' => e = .returned (.int .i64 0) ∧ Ext _ w') from HV.out)
    obtain ⟨b, o, rfl, hr0, hb0⟩ := HS.out.at (by omega)
    obtain ⟨j, rfl⟩ : ∃ j : Nat, op = (j : Int) := ⟨op.toNat, by omega⟩
    rw [Int.toNat_natCast] at h2
    have HR := Lib.hid (fun (W : World) (h : Ext ((w.alloc (.cells (txA ac sq (some ⟨b, o, none⟩) n c) 48)).alloc (.cells zcs.toArray 23)) W) => show W.cell? ⟨b, o + j * 23, none⟩ = some (.int .i64 2) from by
      have := op_at (rangeAt_keep hr0 (h.block b hb0)) (k := j) (by rw [hlen]; omega) 0 _ rfl
      rw [h2] at this; exact this)
    have d1 : decide ((j : Int) < 0) = false := decide_eq_false (by omega)
    have d2 : decide ((n : Int) ≤ (j : Int)) = false := decide_eq_false (by omega)
    have d3 : (j : Int) < (n : Int) := by omega
    have HNM := Lib.hid (fun (W : World) (h : Ext ((w.alloc (.cells (txA ac sq (some ⟨b, o, none⟩) n c) 48)).alloc (.cells zcs.toArray 23)) W) => txName_any ac sq (some ⟨b, o, none⟩) n c L W (HS.out.ext h))
    clear hS hE hv h0 h1 h2 hr0 hb0 hlen
    go_enter Try.func36, Try.ntmps36
    go_wp2_with fail
    refine HV.out.mono ?_
    rintro e w1 ⟨rfl, he1⟩
    have HX1 := Lib.hid he1
    obtain ⟨q0, q1, q2⟩ := tx_facts (HB1.out.ext he1)
    have q3 := HR.out _ he1
    clear he1 HV
    go_wp2_with fail
    refine (HNM.out _ HX1.out).mono ?_
    rintro e w2 ⟨rfl, he2⟩
    obtain ⟨N, hN⟩ : ∃ N, txNm ac sq L = N := ⟨_, rfl⟩
    rw [hN] at HN ⊢
    have HX2 := Lib.hid (HX1.out.trans he2)
    clear he2 q0 q1 q2 q3 hN
    have e3 := ((Ext.refl w2).alloc' (.cells (nmc N) 23)).alloc' (.cells #[.int .u8 ((j : Int) % 256)] 5)
    have HSA := Lib.hid (SlB.blkN ((Blk.new w2 23 (nmc N)).alloc (.cells #[.int .u8 ((j : Int) % 256)] 5)))
    have HSB := Lib.hid (SlB.new1 (w2.alloc (.cells (nmc N) 23)) 5 ((j : Int) % 256) (toB (j : Int)) (w2.heap.size + 1) (by simp) (toB_eq _))
    go_wp2_with (first | (with_reducible refine wpList_storeNew rfl (.tmp 5) (.tmp 31) rfl w2.heap.size N rfl rfl rfl ?_) | (at_builtin; go_must (refine wpList_growB bytesE rfl (.tmp 32) (.tmp 35) rfl _ 8 8 (nmb N) rfl HSA.out (by omega) _ 1 1 [toB (j : Int)] rfl HSB.out (by omega) (by omega) (by omega) ?_; intro A5 c5 w5 hO5 he5)))
    have HX5 := Lib.hid (HX2.out.trans (e3.trans he5))
    have HS5 := Lib.hid hO5.sl
    clear hO5 he5 e3
    refine (tagged_any 81 A5 _ c5 _ _ HS5.out (by omega)).mono ?_
    rintro e w6 ⟨rfl, he6⟩
    have hb := HB2.out.ext (HX5.out.trans he6)
    have hst := run_storeN hb (tagU 81 (nmb N ++ [toB (j : Int)]))
    go_wp2_with fail
    exact bodyPost_ret (v := .agg (nmc (tagU 81 (nmb N ++ [toB (j : Int)])))) (retN rfl _ _ (w.heap.size + 1) _ rfl (blkN hb _)) rfl ⟨by rw [HN.out], Below.setCells' (HE.out.trans (HX5.out.trans he6)) (by omega) _ _⟩
  · have HN := Lib.hid (show lockNm ac sq L op = 0 by unfold lockNm; rw [if_neg hall])
    cases hv : vTx ac sq L with
    | false =>
      rw [hv] at HV
      have HV := Lib.hid (show Calls Try.prog 32 #[.agg (txA ac sq A n c)] _ (fun e w' => e = .returned (.int .i64 1) ∧ Ext _ w') from HV.out)
      clear hS hE hv hall
      go_enter Try.func36, Try.ntmps36
      go_wp2_with fail
      refine HV.out.mono ?_
      rintro e w1 ⟨rfl, he1⟩
      have hb := HB2.out.ext he1
      have ht := thereZ hb
      go_wp2_with (with_reducible refine wpList_storeN rfl (.tmp 4) (.tmp 29) rfl (w.heap.size + 1) 0 0 rfl rfl ht ?_)
      exact bodyPost_ret (v := .agg (nmc 0)) (retN rfl _ _ (w.heap.size + 1) 0 rfl (by first | exact blkN hb 0 | exact blk_zero hb)) rfl ⟨by rw [HN.out], Below.setCells' (HE.out.trans he1) (by omega) _ _⟩
    | true =>
      rw [hv] at HV
      have HV := Lib.hid (show Calls Try.prog 32 #[.agg (txA ac sq A n c)] _ (fun e w' => e = .returned (.int .i64 0) ∧ Ext _ w') from HV.out)
      have hc : op < 0 ∨ (decide (op < 0) = false ∧ (n : Int) ≤ op) ∨ (∃ j : Nat, op = (j : Int) ∧ j < n ∧ (nthO L j).k ≠ 2) := by
        by_cases h0 : op < 0
        · exact .inl h0
        · by_cases h1 : (n : Int) ≤ op
          · exact .inr (.inl ⟨decide_eq_false h0, h1⟩)
          · refine .inr (.inr ⟨op.toNat, by omega, by omega, fun h2 => hall ⟨hv, by omega, by rw [hlen]; omega, h2⟩⟩)
      clear hall hv hE
      rcases hc with h0 | ⟨d1, h1⟩ | ⟨j, rfl, hj, h2⟩
      · clear hS
        go_enter Try.func36, Try.ntmps36
        go_wp2_with fail
        refine HV.out.mono ?_
        rintro e w1 ⟨rfl, he1⟩
        have hb := HB2.out.ext he1
        have ht := thereZ hb
        go_wp2_with (with_reducible refine wpList_storeN rfl (.tmp 4) (.tmp 29) rfl (w.heap.size + 1) 0 0 rfl rfl ht ?_)
        exact bodyPost_ret (v := .agg (nmc 0)) (retN rfl _ _ (w.heap.size + 1) 0 rfl (by first | exact blkN hb 0 | exact blk_zero hb)) rfl ⟨by rw [HN.out], Below.setCells' (HE.out.trans he1) (by omega) _ _⟩
      · clear hS
        go_enter Try.func36, Try.ntmps36
        go_wp2_with fail
        refine HV.out.mono ?_
        rintro e w1 ⟨rfl, he1⟩
        obtain ⟨q0, q1, q2⟩ := tx_facts (HB1.out.ext he1)
        have hb := HB2.out.ext he1
        have ht := thereZ hb
        go_wp2_with (with_reducible refine wpList_storeN rfl (.tmp 4) (.tmp 29) rfl (w.heap.size + 1) 0 0 rfl rfl ht ?_)
        exact bodyPost_ret (v := .agg (nmc 0)) (retN rfl _ _ (w.heap.size + 1) 0 rfl (by first | exact blkN hb 0 | exact blk_zero hb)) rfl ⟨by rw [HN.out], Below.setCells' (HE.out.trans he1) (by omega) _ _⟩
      · obtain ⟨b, o, rfl, hr0, hb0⟩ := HS.out.at (by omega)
        have d1 : decide ((j : Int) < 0) = false := decide_eq_false (by omega)
        have d2 : decide ((n : Int) ≤ (j : Int)) = false := decide_eq_false (by omega)
        have d3 : (j : Int) < (n : Int) := by omega
        have j0 : (0 : Int) ≤ (j : Int) := by omega
        have HR := Lib.hid (fun (W : World) (h : Ext ((w.alloc (.cells (txA ac sq (some ⟨b, o, none⟩) n c) 48)).alloc (.cells zcs.toArray 23)) W) => show W.cell? ⟨b, o + j * 23, none⟩ = some (.int .i64 (nthO L j).k) from op_at (rangeAt_keep hr0 (h.block b hb0)) (k := j) (by rw [hlen]; omega) 0 _ rfl)
        obtain ⟨x, hx⟩ : ∃ x, (nthO L j).k = x := ⟨_, rfl⟩
        rw [hx] at HR h2
        have y1 : (x != 2) = true := by simp; omega
        have y2 : (x == 2) = false := by simp; omega
        have y3 : decide (x = 2) = false := by simp; omega
        clear hS hr0 hb0 hx h2 hj hlen
        go_enter Try.func36, Try.ntmps36
        go_wp2_with fail
        refine HV.out.mono ?_
        rintro e w1 ⟨rfl, he1⟩
        obtain ⟨q0, q1, q2⟩ := tx_facts (HB1.out.ext he1)
        have q3 := HR.out _ he1
        have hb := HB2.out.ext he1
        have ht := thereZ hb
        go_wp2_with (with_reducible refine wpList_storeN rfl (.tmp 4) (.tmp 29) rfl (w.heap.size + 1) 0 0 rfl rfl ht ?_)
        exact bodyPost_ret (v := .agg (nmc 0)) (retN rfl _ _ (w.heap.size + 1) 0 rfl (by first | exact blkN hb 0 | exact blk_zero hb)) rfl ⟨by rw [HN.out], Below.setCells' (HE.out.trans he1) (by omega) _ _⟩
end Go.Proofs.Ytcfmlgbocdjabaa
/- LockName (the reference's). -/
namespace Go.Proofs.Ytcfmlgbocdjabaa
open Go.RowKit
set_option linter.unusedVariables false
set_option linter.unusedSimpArgs false
attribute [local go_sem ↓] Go.wp_at_zero Go.wp_at_succ

set_option maxRecDepth 100000 in
set_option maxHeartbeats 4000000 in
theorem refLockName_any (ac sq : Int) (A : Option Addr) (n c : Nat) (L : List OpR) (op : Int) (w : World) (hS : SlO w A n c L) :
    Calls Try.prog 37 #[.agg (txA ac sq A n c), .int .i64 op] w fun e w' => e = .returned (.agg (nmc (lockNm ac sq L op))) ∧ Ext w w' := by
  have hle := hS.le
  have hcap := hS.cap
  have hlen := hS.len
  have hE := ((Ext.refl w).alloc' (.cells (txA ac sq A n c) 48)).alloc' (.cells zcs.toArray 23)
  have HB1 := Lib.hid ((Blk.new w 48 (txA ac sq A n c)).alloc (.cells zcs.toArray 23))
  have HB2 := Lib.hid (show Blk ((w.alloc (.cells (txA ac sq A n c) 48)).alloc (.cells zcs.toArray 23)) (w.heap.size + 1) 23 zcs.toArray from Blk.newAt _ _ _ _ (by simp))
  have HE := Lib.hid hE
  have HS := Lib.hid (hS.ext hE)
  have HV := Lib.hid (refValidTx_any ac sq A n c L _ HS.out)
  by_cases hall : vTx ac sq L = true ∧ 0 ≤ op ∧ op < (L.length : Int) ∧ (nthO L op.toNat).k = 2
  · obtain ⟨hv, h0, h1, h2⟩ := hall
    have HN := Lib.hid (show lockNm ac sq L op = tagU 81 (nmb (txNm ac sq L) ++ [toB op]) by unfold lockNm; rw [if_pos ⟨hv, h0, h1, h2⟩])
    rw [hlen] at h1
    rw [hv] at HV
    have HV := Lib.hid (show Calls Try.prog 34 #[.agg (txA ac sq A n c)] _ (fun e w' => e = .returned (.bool true) ∧ Ext _ w') from HV.out)
    obtain ⟨b, o, rfl, hr0, hb0⟩ := HS.out.at (by omega)
    obtain ⟨j, rfl⟩ : ∃ j : Nat, op = (j : Int) := ⟨op.toNat, by omega⟩
    rw [Int.toNat_natCast] at h2
    have HR := Lib.hid (fun (W : World) (h : Ext ((w.alloc (.cells (txA ac sq (some ⟨b, o, none⟩) n c) 48)).alloc (.cells zcs.toArray 23)) W) => show W.cell? ⟨b, o + j * 23, none⟩ = some (.int .i64 2) from by
      have := op_at (rangeAt_keep hr0 (h.block b hb0)) (k := j) (by rw [hlen]; omega) 0 _ rfl
      rw [h2] at this; exact this)
    have d1 : decide ((j : Int) < 0) = false := decide_eq_false (by omega)
    have d2 : decide ((n : Int) ≤ (j : Int)) = false := decide_eq_false (by omega)
    have d3 : (j : Int) < (n : Int) := by omega
    have HNM := Lib.hid (fun (W : World) (h : Ext ((w.alloc (.cells (txA ac sq (some ⟨b, o, none⟩) n c) 48)).alloc (.cells zcs.toArray 23)) W) => refTxName_any ac sq (some ⟨b, o, none⟩) n c L W (HS.out.ext h))
    clear hS hE hv h0 h1 h2 hr0 hb0 hlen
    go_enter Try.func37, Try.ntmps37
    go_wp2_with fail
    refine HV.out.mono ?_
    rintro e w1 ⟨rfl, he1⟩
    have HX1 := Lib.hid he1
    obtain ⟨q0, q1, q2⟩ := tx_facts (HB1.out.ext he1)
    have q3 := HR.out _ he1
    clear he1 HV
    go_wp2_with fail
    refine (HNM.out _ HX1.out).mono ?_
    rintro e w2 ⟨rfl, he2⟩
    have HX2 := Lib.hid (HX1.out.trans he2)
    clear he2 q0 q1 q2 q3
    go_wp2_with fail
    refine (refNm_any none 0 0 [] (txNm ac sq L) w2 (SlB.nil _) (by omega)).mono ?_
    rintro e w3 ⟨A3, c3, rfl, hO3, he3⟩
    have HX3 := Lib.hid (HX2.out.trans he3)
    have HS3 := Lib.hid (show SlB w3 A3 8 c3 (nmb (txNm ac sq L)) from by simpa using hO3.sl)
    clear hO3 he3
    go_wp2_with fail
    refine (refNum1_any A3 8 c3 _ (j : Int) w3 HS3.out (by omega)).mono ?_
    rintro e w4 ⟨A4, c4, rfl, hO4, he4⟩
    have HX4 := Lib.hid (HX3.out.trans he4)
    have HS4 := Lib.hid hO4.sl
    clear hO4 he4
    go_wp2_with fail
    refine (refTagged_any 81 A4 _ c4 _ _ HS4.out (by omega)).mono ?_
    rintro e w5 ⟨rfl, he5⟩
    have hb := HB2.out.ext (HX4.out.trans he5)
    have hst := run_storeN hb (tagU 81 (nmb (txNm ac sq L) ++ [toB (j : Int)]))
    go_wp2_with fail
    exact bodyPost_ret (v := .agg (nmc (tagU 81 (nmb (txNm ac sq L) ++ [toB (j : Int)])))) (retN rfl _ _ (w.heap.size + 1) _ rfl (blkN hb _)) rfl ⟨by rw [HN.out], Below.setCells' (HE.out.trans (HX4.out.trans he5)) (by omega) _ _⟩
  · have HN := Lib.hid (show lockNm ac sq L op = 0 by unfold lockNm; rw [if_neg hall])
    cases hv : vTx ac sq L with
    | false =>
      rw [hv] at HV
      have HV := Lib.hid (show Calls Try.prog 34 #[.agg (txA ac sq A n c)] _ (fun e w' => e = .returned (.bool false) ∧ Ext _ w') from HV.out)
      clear hS hE hv hall
      go_enter Try.func37, Try.ntmps37
      go_wp2_with fail
      refine HV.out.mono ?_
      rintro e w1 ⟨rfl, he1⟩
      have hb := HB2.out.ext he1
      have ht := thereZ hb
      go_wp2_with (with_reducible refine wpList_storeN rfl (.tmp 4) (.tmp 28) rfl (w.heap.size + 1) 0 0 rfl rfl ht ?_)
      exact bodyPost_ret (v := .agg (nmc 0)) (retN rfl _ _ (w.heap.size + 1) 0 rfl (by first | exact blkN hb 0 | exact blk_zero hb)) rfl ⟨by rw [HN.out], Below.setCells' (HE.out.trans he1) (by omega) _ _⟩
    | true =>
      rw [hv] at HV
      have HV := Lib.hid (show Calls Try.prog 34 #[.agg (txA ac sq A n c)] _ (fun e w' => e = .returned (.bool true) ∧ Ext _ w') from HV.out)
      have hc : op < 0 ∨ (decide (op < 0) = false ∧ (n : Int) ≤ op) ∨ (∃ j : Nat, op = (j : Int) ∧ j < n ∧ (nthO L j).k ≠ 2) := by
        by_cases h0 : op < 0
        · exact .inl h0
        · by_cases h1 : (n : Int) ≤ op
          · exact .inr (.inl ⟨decide_eq_false h0, h1⟩)
          · refine .inr (.inr ⟨op.toNat, by omega, by omega, fun h2 => hall ⟨hv, by omega, by rw [hlen]; omega, h2⟩⟩)
      clear hall hv hE
      rcases hc with h0 | ⟨d1, h1⟩ | ⟨j, rfl, hj, h2⟩
      · clear hS
        go_enter Try.func37, Try.ntmps37
        go_wp2_with fail
        refine HV.out.mono ?_
        rintro e w1 ⟨rfl, he1⟩
        have hb := HB2.out.ext he1
        have ht := thereZ hb
        go_wp2_with (with_reducible refine wpList_storeN rfl (.tmp 4) (.tmp 28) rfl (w.heap.size + 1) 0 0 rfl rfl ht ?_)
        exact bodyPost_ret (v := .agg (nmc 0)) (retN rfl _ _ (w.heap.size + 1) 0 rfl (by first | exact blkN hb 0 | exact blk_zero hb)) rfl ⟨by rw [HN.out], Below.setCells' (HE.out.trans he1) (by omega) _ _⟩
      · clear hS
        go_enter Try.func37, Try.ntmps37
        go_wp2_with fail
        refine HV.out.mono ?_
        rintro e w1 ⟨rfl, he1⟩
        obtain ⟨q0, q1, q2⟩ := tx_facts (HB1.out.ext he1)
        have hb := HB2.out.ext he1
        have ht := thereZ hb
        go_wp2_with (with_reducible refine wpList_storeN rfl (.tmp 4) (.tmp 28) rfl (w.heap.size + 1) 0 0 rfl rfl ht ?_)
        exact bodyPost_ret (v := .agg (nmc 0)) (retN rfl _ _ (w.heap.size + 1) 0 rfl (by first | exact blkN hb 0 | exact blk_zero hb)) rfl ⟨by rw [HN.out], Below.setCells' (HE.out.trans he1) (by omega) _ _⟩
      · obtain ⟨b, o, rfl, hr0, hb0⟩ := HS.out.at (by omega)
        have d1 : decide ((j : Int) < 0) = false := decide_eq_false (by omega)
        have d2 : decide ((n : Int) ≤ (j : Int)) = false := decide_eq_false (by omega)
        have d3 : (j : Int) < (n : Int) := by omega
        have j0 : (0 : Int) ≤ (j : Int) := by omega
        have HR := Lib.hid (fun (W : World) (h : Ext ((w.alloc (.cells (txA ac sq (some ⟨b, o, none⟩) n c) 48)).alloc (.cells zcs.toArray 23)) W) => show W.cell? ⟨b, o + j * 23, none⟩ = some (.int .i64 (nthO L j).k) from op_at (rangeAt_keep hr0 (h.block b hb0)) (k := j) (by rw [hlen]; omega) 0 _ rfl)
        obtain ⟨x, hx⟩ : ∃ x, (nthO L j).k = x := ⟨_, rfl⟩
        rw [hx] at HR h2
        have y1 : (x != 2) = true := by simp; omega
        have y2 : (x == 2) = false := by simp; omega
        have y3 : decide (x = 2) = false := by simp; omega
        clear hS hr0 hb0 hx h2 hj hlen
        go_enter Try.func37, Try.ntmps37
        go_wp2_with fail
        refine HV.out.mono ?_
        rintro e w1 ⟨rfl, he1⟩
        obtain ⟨q0, q1, q2⟩ := tx_facts (HB1.out.ext he1)
        have q3 := HR.out _ he1
        have hb := HB2.out.ext he1
        have ht := thereZ hb
        go_wp2_with (with_reducible refine wpList_storeN rfl (.tmp 4) (.tmp 28) rfl (w.heap.size + 1) 0 0 rfl rfl ht ?_)
        exact bodyPost_ret (v := .agg (nmc 0)) (retN rfl _ _ (w.heap.size + 1) 0 rfl (by first | exact blkN hb 0 | exact blk_zero hb)) rfl ⟨by rw [HN.out], Below.setCells' (HE.out.trans he1) (by omega) _ _⟩
end Go.Proofs.Ytcfmlgbocdjabaa
