/- Signed votes and texts compared; lists of them. -/
import Derived.Test.YtjlnmpjffogpdaaVt1
namespace Go.Proofs.Ytjlnmpjffogpdaa
open Go.RowKit
set_option linter.unusedVariables false
set_option linter.unusedSimpArgs false
attribute [local go_sem ↓] Go.wp_at_zero Go.wp_at_succ

theorem strV_eq' (p q : List UInt8) : ((strV p).toList == (strV q).toList) = decide (p = q) := by
  rw [Bool.eq_iff_iff]
  simp only [beq_iff_eq, decide_eq_true_eq]
  exact ⟨fun h => strV_list h, fun h => by rw [h]⟩
theorem bEqual_any (A : Option Addr) (n c : Nat) (p : List UInt8) (A' : Option Addr) (n' c' : Nat) (q : List UInt8) (w : World) (h : SlB w A n c p) (h' : SlB w A' n' c' q) :
    Calls Try.prog 18 #[.slice A n c, .slice A' n' c'] w fun e w' => e = .returned (.bool (decide (p = q))) ∧ w = w' := by
  have r1 := run_strV h
  have r2 := run_strV h'
  have HV := Lib.hid (strV_eq' p q)
  clear h h'
  go_enter Try.func18, Try.ntmps18
  go_wp2_with fail
  go_ret
  exact ⟨by rw [← HV.out]; rfl, rfl⟩
set_option maxRecDepth 100000 in
set_option maxHeartbeats 4000000 in
theorem equalVotes_any (R Q : SgR) (w : World) (hR : R.ok w) (hQ : Q.ok w) :
    Calls Try.prog 48 #[.agg (sgA R), .agg (sgA Q)] w fun e w' => e = .returned (.bool (eqSg R Q)) ∧ Ext w w' := by
  have hE := ((Ext.refl w).alloc' (.cells (sgA R) 45)).alloc' (.cells (sgA Q) 45)
  have HB1 := Lib.hid ((Blk.new w 45 (sgA R)).alloc (.cells (sgA Q) 45))
  have HB2 := Lib.hid (show Blk ((w.alloc (.cells (sgA R) 45)).alloc (.cells (sgA Q) 45)) (w.heap.size + 1) 45 (sgA Q) from Blk.newAt _ _ _ _ (by simp))
  have HE := Lib.hid hE
  have HX := Lib.hid (fun (W : World) (h : Ext w W) => bEqual_any R.A R.n R.c R.sig Q.A Q.n Q.c Q.sig W (hR.sig.ext h) (hQ.sig.ext h))
  have hq := fun W => run_eqVt R.v Q.v hR.v hQ.v W
  have hqi := fun W => eqIn_Vt R.v Q.v hR.v hQ.v W
  have HV := Lib.hid (show eqSg R Q = (decide (R.v = Q.v) && decide (R.sig = Q.sig)) from rfl)
  obtain ⟨w0, hw0⟩ : ∃ w0, (w.alloc (.cells (sgA R) 45)).alloc (.cells (sgA Q) 45) = w0 := ⟨_, rfl⟩
  rw [hw0] at HB1 HB2 HE
  have r1 : w0.rangeAt w.heap.size 0 (vtL R.v) := rangeAt_take (k := 22) (rangeAt_of_blk HB1.out)
  have r2 : w0.rangeAt (w.heap.size + 1) 0 (vtL Q.v) := rangeAt_take (k := 22) (rangeAt_of_blk HB2.out)
  have p1 : w0.cell? ⟨w.heap.size, 22, none⟩ = some (.slice R.A R.n R.c) := HB1.out.cell 22
  have p2 : w0.cell? ⟨w.heap.size + 1, 22, none⟩ = some (.slice Q.A Q.n Q.c) := HB2.out.cell 22
  clear hR hQ hE
  by_cases hv : R.v = Q.v
  · have HV' := Lib.hid (show eqSg R Q = decide (R.sig = Q.sig) by rw [HV.out]; simp [hv])
    rw [decide_eq_true hv] at hq hqi
    clear hv HV
    go_enter Try.func48, Try.ntmps48
    go_wp2_with (first | (with_reducible refine wpList_loadVt rfl (.tmp 5) rfl w.heap.size 0 rfl R.v r1 ?_) | (with_reducible refine wpList_loadVt rfl (.tmp 7) rfl (w.heap.size + 1) 0 rfl Q.v r2 ?_) | (go_at_call 18; refine (HX.out _ HE.out).mono ?_; rintro e w1 ⟨rfl, rfl⟩))
    go_ret
    exact ⟨by rw [HV'.out]; rfl, HE.out⟩
  · have HV' := Lib.hid (show eqSg R Q = false by rw [HV.out]; simp [hv])
    rw [decide_eq_false hv] at hq hqi
    clear hv HV
    go_enter Try.func48, Try.ntmps48
    go_wp2_with (first | (with_reducible refine wpList_loadVt rfl (.tmp 5) rfl w.heap.size 0 rfl R.v r1 ?_) | (with_reducible refine wpList_loadVt rfl (.tmp 7) rfl (w.heap.size + 1) 0 rfl Q.v r2 ?_))
    go_ret
    exact ⟨by rw [HV'.out]; rfl, HE.out⟩
set_option maxRecDepth 100000 in
set_option maxHeartbeats 4000000 in
theorem eqfSg_any (A : Option Addr) (n c : Nat) (L : List SgR) (A' : Option Addr) (n' c' : Nat) (M : List SgR) (w : World) (hS : SlG w A n c L) (hS' : SlG w A' n' c' M) :
    Calls Try.prog 47 #[.slice A n c, .slice A' n' c', .func (.func 48) #[] #[]] w fun e w' => e = .returned (.bool (eqG eqSg L M)) ∧ Ext w w' := by
  have hle := hS.le
  have hcap := hS.cap
  have hle' := hS'.le
  have hcap' := hS'.cap
  have HL := Lib.hid hS.len
  have HM := Lib.hid hS'.len
  by_cases hn : n = n'
  · subst hn
    have HS := Lib.hid hS
    have HS' := Lib.hid hS'
    have HCA := Lib.hid (show n = 0 ∨ ((∃ b o, A = some ⟨b, o, none⟩ ∧ w.rangeAt b o (gcs L) ∧ b < w.heap.size) ∧ ∃ b o, A' = some ⟨b, o, none⟩ ∧ w.rangeAt b o (gcs M) ∧ b < w.heap.size) from by
      rcases Nat.eq_zero_or_pos n with h0 | h0
      · exact .inl h0
      · exact .inr ⟨HS.out.at h0, HS'.out.at h0⟩)
    clear hS hS'
    go_enter Try.func47, Try.ntmps47
    go_wp2_with fail
    go_loopw [17] (fun i wr => ∃ k : Nat, k ≤ n ∧ i = .int .i64 (k : Int) ∧ Hid (∀ j, j < k → eqSg (nthG L j) (nthG M j) = true) ∧ Ext w wr) (fun i _ => n - (intOf i).toNat)
    case atStart => exact ⟨0, Nat.zero_le _, rfl, Lib.hid (fun j hj => by omega), Ext.refl _⟩
    case round =>
      obtain ⟨k, hk, rfl, HP, hX⟩ := hrel
      have HX := Lib.hid hX
      clear hX
      by_cases hlt : k < n
      · rcases HCA.out with h0 | ⟨⟨b, of, rfl, hr, hb⟩, b', of', rfl, hr', hb'⟩
        · omega
        have HR := Lib.hid hr
        have HR' := Lib.hid hr'
        have hr1 : wr.rangeAt b (of + k * 23) (sgL (nthG L k)) := el_at (rangeAt_keep hr (HX.out.block b hb)) (k := k) (by rw [HL.out]; exact hlt)
        have hr2 : wr.rangeAt b' (of' + k * 23) (sgL (nthG M k)) := el_at (rangeAt_keep hr' (HX.out.block b' hb')) (k := k) (by rw [HM.out]; exact hlt)
        clear hr hr' hb hb' HCA
        have HOK := Lib.hid (HS.out.nth hlt : (nthG L k).ok w)
        have HOK' := Lib.hid (HS'.out.nth hlt : (nthG M k).ok w)
        have HQ := Lib.hid (fun (hx : eqSg (nthG L k) (nthG M k) = true) => show ∀ j, j < k + 1 → eqSg (nthG L j) (nthG M j) = true from fun j hj => by
          rcases Nat.lt_or_ge j k with h | h
          · exact HP.out j h
          · obtain rfl : j = k := by omega
            exact hx)
        have HN := Lib.hid (fun (hx : eqSg (nthG L k) (nthG M k) = false) => show eqG eqSg L M = false from eqG_at (by rw [HL.out]; exact hlt) hx)
        have i0 : (0 : Int) ≤ (k : Int) := by omega
        have i1 : (k : Int) < (n : Int) := by omega
        obtain ⟨R, hR⟩ : ∃ R, nthG L k = R := ⟨_, rfl⟩
        obtain ⟨Q, hQ⟩ : ∃ Q, nthG M k = Q := ⟨_, rfl⟩
        rw [hR, hQ] at HQ HN
        rw [hR] at hr1 HOK
        rw [hQ] at hr2 HOK'
        clear hR hQ
        obtain ⟨W1, hW1⟩ : ∃ W1, wr.alloc (.cells (sgA R) 45) = W1 := ⟨_, rfl⟩
        have h12 : Ext wr W1 := by rw [← hW1]; exact (Ext.refl wr).alloc' _
        have hr2' : W1.rangeAt b' (of' + k * 23) (sgL Q) := rangeAt_keep hr2 (h12.block b' (rangeAt_lt hr2 (by intro e; cases e)))
        have HT := Lib.hid h12
        have h23 : Ext W1 (W1.alloc (.cells (sgA Q) 45)) := (Ext.refl W1).alloc' _
        have hn1 : (W1.alloc (.cells (sgA Q) 45)).rangeAt wr.heap.size 0 (sgL R) := by
          have hb : Blk W1 wr.heap.size 45 (sgA R) := by rw [← hW1]; exact Blk.new wr _ _
          exact rangeAt_of_blk (hb.ext h23)
        have hn2 : (W1.alloc (.cells (sgA Q) 45)).rangeAt W1.heap.size 0 (sgL Q) := rangeAt_of_blk (Blk.new W1 45 (sgA Q))
        have HU := Lib.hid h23
        clear h12 h23 hr2
        go_wp2_with (first | (with_reducible refine wpList_loadSg rfl (.tmp 20) rfl b (of + k * 23) rfl R hr1 ?_) | (with_reducible refine wpList_newSg rfl (.tmp 8) (.tmp 21) rfl _ rfl R rfl rfl ?_) | (with_reducible refine wpList_loadSg rfl (.tmp 24) rfl b' (of' + k * 23) rfl Q hr2' ?_) | (with_reducible refine wpList_newSg rfl (.tmp 9) (.tmp 25) rfl _ rfl Q rfl rfl ?_) | (with_reducible refine wpList_loadSg rfl (.tmp 8) rfl wr.heap.size 0 rfl R hn1 ?_) | (with_reducible refine wpList_loadSg rfl (.tmp 9) rfl W1.heap.size 0 rfl Q hn2 ?_))
        refine (equalVotes_any R Q _ (HOK.out.ext (HX.out.trans (HT.out.trans HU.out))) (HOK'.out.ext (HX.out.trans (HT.out.trans HU.out)))).mono ?_
        rintro e w1 ⟨rfl, he1⟩
        have HX1 := Lib.hid (HX.out.trans (HT.out.trans (HU.out.trans he1)))
        clear he1 hr1 hr2' hn1 hn2 hW1 HT HU
        cases hv : eqSg R Q with
        | true =>
          have HQ' := Lib.hid (HQ.out hv)
          clear hv
          go_wp2_with fail
          go_roundw
          case rel => exact ⟨k + 1, by omega, by go_num, HQ', HX1.out⟩
          case measure => simp [intOf]; omega
        | false =>
          have HN' := Lib.hid (HN.out hv)
          clear hv
          go_wp2_with fail
          go_ret
          exact ⟨by rw [HN'.out]; rfl, HX1.out⟩
      · obtain rfl : k = n := by omega
        have HV := Lib.hid (show eqG eqSg L M = true from eqG_yes (by rw [HL.out, HM.out]) (fun j hj => HP.out j (by rw [HL.out] at hj; exact hj)))
        go_wp2_with fail
        go_ret
        exact ⟨by rw [HV.out]; rfl, HX.out⟩
  · have HV := Lib.hid (show eqG eqSg L M = false from eqG_len (by rw [HL.out, HM.out]; exact hn))
    have d1 : ((n : Int) == (n' : Int)) = false := by simp; omega
    have d2 : decide ((n : Int) = (n' : Int)) = false := decide_eq_false (by omega)
    clear hS hS' hn
    go_enter Try.func47, Try.ntmps47
    go_wp2_with fail
    go_ret
    exact ⟨by rw [HV.out]; rfl, Ext.refl _⟩
set_option maxRecDepth 100000 in
set_option maxHeartbeats 4000000 in
theorem eqfTe_any (A : Option Addr) (n c : Nat) (L : List TeR) (A' : Option Addr) (n' c' : Nat) (M : List TeR) (w : World) (hS : SlG w A n c L) (hS' : SlG w A' n' c' M) :
    Calls Try.prog 49 #[.slice A n c, .slice A' n' c', .func (.func 18) #[] #[]] w fun e w' => e = .returned (.bool (eqG eqTe L M)) ∧ Ext w w' := by
  have hle := hS.le
  have hcap := hS.cap
  have hle' := hS'.le
  have hcap' := hS'.cap
  have HL := Lib.hid hS.len
  have HM := Lib.hid hS'.len
  by_cases hn : n = n'
  · subst hn
    have HS := Lib.hid hS
    have HS' := Lib.hid hS'
    have HCA := Lib.hid (show n = 0 ∨ ((∃ b o, A = some ⟨b, o, none⟩ ∧ w.rangeAt b o (gcs L) ∧ b < w.heap.size) ∧ ∃ b o, A' = some ⟨b, o, none⟩ ∧ w.rangeAt b o (gcs M) ∧ b < w.heap.size) from by
      rcases Nat.eq_zero_or_pos n with h0 | h0
      · exact .inl h0
      · exact .inr ⟨HS.out.at h0, HS'.out.at h0⟩)
    clear hS hS'
    go_enter Try.func49, Try.ntmps49
    go_wp2_with fail
    go_loopw [17] (fun i wr => ∃ k : Nat, k ≤ n ∧ i = .int .i64 (k : Int) ∧ Hid (∀ j, j < k → eqTe (nthG L j) (nthG M j) = true) ∧ Ext w wr) (fun i _ => n - (intOf i).toNat)
    case atStart => exact ⟨0, Nat.zero_le _, rfl, Lib.hid (fun j hj => by omega), Ext.refl _⟩
    case round =>
      obtain ⟨k, hk, rfl, HP, hX⟩ := hrel
      have HX := Lib.hid hX
      clear hX
      by_cases hlt : k < n
      · rcases HCA.out with h0 | ⟨⟨b, of, rfl, hr, hb⟩, b', of', rfl, hr', hb'⟩
        · omega
        have HR := Lib.hid hr
        have HR' := Lib.hid hr'
        have hr1 : wr.rangeAt b (of + k * 1) (teL (nthG L k)) := el_at (rangeAt_keep hr (HX.out.block b hb)) (k := k) (by rw [HL.out]; exact hlt)
        have hr2 : wr.rangeAt b' (of' + k * 1) (teL (nthG M k)) := el_at (rangeAt_keep hr' (HX.out.block b' hb')) (k := k) (by rw [HM.out]; exact hlt)
        clear hr hr' hb hb' HCA
        have HOK := Lib.hid (HS.out.nth hlt : (nthG L k).ok w)
        have HOK' := Lib.hid (HS'.out.nth hlt : (nthG M k).ok w)
        have HQ := Lib.hid (fun (hx : eqTe (nthG L k) (nthG M k) = true) => show ∀ j, j < k + 1 → eqTe (nthG L j) (nthG M j) = true from fun j hj => by
          rcases Nat.lt_or_ge j k with h | h
          · exact HP.out j h
          · obtain rfl : j = k := by omega
            exact hx)
        have HN := Lib.hid (fun (hx : eqTe (nthG L k) (nthG M k) = false) => show eqG eqTe L M = false from eqG_at (by rw [HL.out]; exact hlt) hx)
        have i0 : (0 : Int) ≤ (k : Int) := by omega
        have i1 : (k : Int) < (n : Int) := by omega
        obtain ⟨R, hR⟩ : ∃ R, nthG L k = R := ⟨_, rfl⟩
        obtain ⟨Q, hQ⟩ : ∃ Q, nthG M k = Q := ⟨_, rfl⟩
        rw [hR, hQ] at HQ HN
        rw [hR] at hr1 HOK
        rw [hQ] at hr2 HOK'
        clear hR hQ
        obtain ⟨RA, Rn, Rc, Rl⟩ := R
        obtain ⟨QA, Qn, Qc, Ql⟩ := Q
        have c1 : wr.cell? ⟨b, of + k, none⟩ = some (.slice RA Rn Rc) := by have := hr1 0 _ rfl; rwa [Nat.mul_one, Nat.add_zero] at this
        have c2 : wr.cell? ⟨b', of' + k, none⟩ = some (.slice QA Qn Qc) := by have := hr2 0 _ rfl; rwa [Nat.mul_one, Nat.add_zero] at this
        clear hr1 hr2
        go_wp2_with fail
        refine (bEqual_any RA Rn Rc Rl QA Qn Qc Ql _ (SlB.ext HOK.out HX.out) (SlB.ext HOK'.out HX.out)).mono ?_
        rintro e w1 ⟨rfl, rfl⟩
        have HX1 := Lib.hid HX.out
        clear c1 c2
        cases hv : decide (Rl = Ql) with
        | true =>
          have HQ' := Lib.hid (HQ.out hv)
          clear hv
          go_wp2_with fail
          go_roundw
          case rel => exact ⟨k + 1, by omega, by go_num, HQ', HX1.out⟩
          case measure => simp [intOf]; omega
        | false =>
          have HN' := Lib.hid (HN.out hv)
          clear hv
          go_wp2_with fail
          go_ret
          exact ⟨by rw [HN'.out]; rfl, HX1.out⟩
      · obtain rfl : k = n := by omega
        have HV := Lib.hid (show eqG eqTe L M = true from eqG_yes (by rw [HL.out, HM.out]) (fun j hj => HP.out j (by rw [HL.out] at hj; exact hj)))
        go_wp2_with fail
        go_ret
        exact ⟨by rw [HV.out]; rfl, HX.out⟩
  · have HV := Lib.hid (show eqG eqTe L M = false from eqG_len (by rw [HL.out, HM.out]; exact hn))
    have d1 : ((n : Int) == (n' : Int)) = false := by simp; omega
    have d2 : decide ((n : Int) = (n' : Int)) = false := decide_eq_false (by omega)
    clear hS hS' hn
    go_enter Try.func49, Try.ntmps49
    go_wp2_with fail
    go_ret
    exact ⟨by rw [HV.out]; rfl, Ext.refl _⟩
end Go.Proofs.Ytjlnmpjffogpdaa
