/- Operations compared; lists of them. -/
import Derived.Test.YtjlnmpjffogpdaaSv1
import Derived.Test.YtjlnmpjffogpdaaTx15
namespace Go.Proofs.Ytjlnmpjffogpdaa
open Go.RowKit
set_option linter.unusedVariables false
set_option linter.unusedSimpArgs false
attribute [local go_sem ↓] Go.wp_at_zero Go.wp_at_succ

instance : RowT OpR where
  sz := 23
  z := opR0
  enc := opL
  ok R w := R.ok w
  pos := by decide
  len := opL_length
  one := opL_one
  ext _ _ _ h e := h.ext e
theorem SlO.g {w : World} {A : Option Addr} {n c : Nat} {L : List OpR} (h : SlO w A n c L) : SlG w A n c L := ⟨h.len, h.le, h.cap, h.rd, h.ok⟩
def eqOp (a b : OpR) : Bool := eqV a.v b.v
theorem eqOp_refl (a : OpR) : eqOp a a = true := (eqV_iff _ _).2 rfl
theorem eqOp_comm (a b : OpR) : eqOp a b = eqOp b a := by
  unfold eqOp
  rw [Bool.eq_iff_iff, eqV_iff, eqV_iff]
  exact eq_comm
set_option maxRecDepth 100000 in
set_option maxHeartbeats 8000000 in
theorem scrSameOp_any (R Q : OpR) (w : World) (hR : R.ok w) (hQ : Q.ok w) :
    Calls Try.prog 21 #[.agg (opA R), .agg (opA Q)] w fun e w' => e = .returned (.bool (eqV R.v Q.v)) ∧ Ext w w' := by
  have hE := ((Ext.refl w).alloc' (.cells (opA R) 58)).alloc' (.cells (opA Q) 58)
  obtain ⟨b1, e1⟩ : ∃ b, decide (R.k = Q.k) = b := ⟨_, rfl⟩
  have x1 : (R.k == Q.k) = b1 := by rw [← e1]; exact (by rw [Bool.eq_iff_iff]; simp)
  obtain ⟨b2, e2⟩ : ∃ b, decide (R.to = Q.to) = b := ⟨_, rfl⟩
  have x2 : (R.to == Q.to) = b2 := by rw [← e2]; exact (by rw [Bool.eq_iff_iff]; simp)
  obtain ⟨b3, e3⟩ : ∃ b, decide (R.am = Q.am) = b := ⟨_, rfl⟩
  have x3 : (R.am == Q.am) = b3 := by rw [← e3]; exact (by rw [Bool.eq_iff_iff]; simp)
  obtain ⟨b4, e4⟩ : ∃ b, decide (R.ul = Q.ul) = b := ⟨_, rfl⟩
  have x4 : (R.ul == Q.ul) = b4 := by rw [← e4]; exact (by rw [Bool.eq_iff_iff]; simp)
  obtain ⟨b5, e5⟩ : ∃ b, decide (R.va = Q.va) = b := ⟨_, rfl⟩
  have x5 : (R.va == Q.va) = b5 := by rw [← e5]; exact (by rw [Bool.eq_iff_iff]; simp)
  obtain ⟨b6, e6⟩ : ∃ b, decide (R.lk = Q.lk) = b := ⟨_, rfl⟩
  have x6 := fun W => run_eqN R.lk Q.lk W
  rw [e6] at x6
  obtain ⟨b7, e7⟩ : ∃ b, decide (R.hs = Q.hs) = b := ⟨_, rfl⟩
  have x7 := fun W => run_eqN R.hs Q.hs W
  rw [e7] at x7
  obtain ⟨b8, e8⟩ : ∃ b, decide (R.pre = Q.pre) = b := ⟨_, rfl⟩
  have X8 := Lib.hid (bytesEqual_any R.A1 R.n1 R.c1 R.pre Q.A1 Q.n1 Q.c1 Q.pre _ (hR.pre.ext hE) (hQ.pre.ext hE))
  rw [e8] at X8
  obtain ⟨b9, e9⟩ : ∃ b, decide (R.prf = Q.prf) = b := ⟨_, rfl⟩
  have X9 := Lib.hid (bytesEqual_any R.A2 R.n2 R.c2 R.prf Q.A2 Q.n2 Q.c2 Q.prf _ (hR.prf.ext hE) (hQ.prf.ext hE))
  rw [e9] at X9
  have HV := Lib.hid (show eqV R.v Q.v = (b1 && (b2 && (b3 && (b4 && (b5 && (b6 && (b7 && (b8 && b9)))))))) by rw [← e1, ← e2, ← e3, ← e4, ← e5, ← e6, ← e7, ← e8, ← e9]; rfl)
  have HE := Lib.hid hE
  have hc := row_cases9 b1 b2 b3 b4 b5 b6 b7 b8 b9
  clear hR hQ hE e6 e7 e8 e9
  rcases hc with rfl | ⟨rfl, rfl⟩ | ⟨rfl, rfl, rfl⟩ | ⟨rfl, rfl, rfl, rfl⟩ | ⟨rfl, rfl, rfl, rfl, rfl⟩ | ⟨rfl, rfl, rfl, rfl, rfl, rfl⟩ | ⟨rfl, rfl, rfl, rfl, rfl, rfl, rfl⟩ | ⟨rfl, rfl, rfl, rfl, rfl, rfl, rfl, rfl⟩ | ⟨rfl, rfl, rfl, rfl, rfl, rfl, rfl, rfl, rfl⟩ | ⟨rfl, rfl, rfl, rfl, rfl, rfl, rfl, rfl, rfl⟩
  all_goals (
    go_enter Try.func21, Try.ntmps21
    go_wp2_with (go_at_call 18; (first | (with_reducible refine X8.out.mono ?_) | (with_reducible refine X9.out.mono ?_)); rintro e wv ⟨rfl, rfl⟩)
    go_ret
    exact ⟨by rw [HV.out]; rfl, HE.out⟩)
theorem scrSameOp_op (R Q : OpR) (w : World) (hR : R.ok w) (hQ : Q.ok w) :
    Calls Try.prog 21 #[.agg (opA R), .agg (opA Q)] w fun e w' => e = .returned (.bool (eqOp R Q)) ∧ Ext w w' := scrSameOp_any R Q w hR hQ
set_option maxRecDepth 100000 in
set_option maxHeartbeats 4000000 in
theorem eqfOp_any (A : Option Addr) (n c : Nat) (L : List OpR) (A' : Option Addr) (n' c' : Nat) (M : List OpR) (w : World) (hS : SlG w A n c L) (hS' : SlG w A' n' c' M) :
    Calls Try.prog 20 #[.slice A n c, .slice A' n' c', .func (.func 21) #[] #[]] w fun e w' => e = .returned (.bool (eqG eqOp L M)) ∧ Ext w w' := by
  have hle := hS.le
  have hcap := hS.cap
  have hle' := hS'.le
  have hcap' := hS'.cap
  have HL := Lib.hid hS.len
  have HM := Lib.hid hS'.len
  by_cases hn : n = n'
  · subst hn
    have HS := Lib.hid hS
    have HS' := Lib.hid hS'
    have HCA := Lib.hid (show n = 0 ∨ ((∃ b o, A = some ⟨b, o, none⟩ ∧ w.rangeAt b o (gcs L) ∧ b < w.heap.size) ∧ ∃ b o, A' = some ⟨b, o, none⟩ ∧ w.rangeAt b o (gcs M) ∧ b < w.heap.size) from by
      rcases Nat.eq_zero_or_pos n with h0 | h0
      · exact .inl h0
      · exact .inr ⟨HS.out.at h0, HS'.out.at h0⟩)
    clear hS hS'
    go_enter Try.func20, Try.ntmps20
    go_wp2_with fail
    go_loopw [17] (fun i wr => ∃ k : Nat, k ≤ n ∧ i = .int .i64 (k : Int) ∧ Hid (∀ j, j < k → eqOp (nthG L j) (nthG M j) = true) ∧ Ext w wr) (fun i _ => n - (intOf i).toNat)
    case atStart => exact ⟨0, Nat.zero_le _, rfl, Lib.hid (fun j hj => by omega), Ext.refl _⟩
    case round =>
      obtain ⟨k, hk, rfl, HP, hX⟩ := hrel
      have HX := Lib.hid hX
      clear hX
      by_cases hlt : k < n
      · rcases HCA.out with h0 | ⟨⟨b, of, rfl, hr, hb⟩, b', of', rfl, hr', hb'⟩
        · omega
        have HR := Lib.hid hr
        have HR' := Lib.hid hr'
        have hr1 : wr.rangeAt b (of + k * 23) (opL (nthG L k)) := el_at (rangeAt_keep hr (HX.out.block b hb)) (k := k) (by rw [HL.out]; exact hlt)
        have hr2 : wr.rangeAt b' (of' + k * 23) (opL (nthG M k)) := el_at (rangeAt_keep hr' (HX.out.block b' hb')) (k := k) (by rw [HM.out]; exact hlt)
        clear hr hr' hb hb' HCA
        have HOK := Lib.hid (HS.out.nth hlt : (nthG L k).ok w)
        have HOK' := Lib.hid (HS'.out.nth hlt : (nthG M k).ok w)
        have HQ := Lib.hid (fun (hx : eqOp (nthG L k) (nthG M k) = true) => show ∀ j, j < k + 1 → eqOp (nthG L j) (nthG M j) = true from fun j hj => by
          rcases Nat.lt_or_ge j k with h | h
          · exact HP.out j h
          · obtain rfl : j = k := by omega
            exact hx)
        have HN := Lib.hid (fun (hx : eqOp (nthG L k) (nthG M k) = false) => show eqG eqOp L M = false from eqG_at (by rw [HL.out]; exact hlt) hx)
        have i0 : (0 : Int) ≤ (k : Int) := by omega
        have i1 : (k : Int) < (n : Int) := by omega
        obtain ⟨R, hR⟩ : ∃ R, nthG L k = R := ⟨_, rfl⟩
        obtain ⟨Q, hQ⟩ : ∃ Q, nthG M k = Q := ⟨_, rfl⟩
        rw [hR, hQ] at HQ HN
        rw [hR] at hr1 HOK
        rw [hQ] at hr2 HOK'
        clear hR hQ
        obtain ⟨W1, hW1⟩ : ∃ W1, wr.alloc (.cells (opA R) 58) = W1 := ⟨_, rfl⟩
        have h12 : Ext wr W1 := by rw [← hW1]; exact (Ext.refl wr).alloc' _
        have hr2' : W1.rangeAt b' (of' + k * 23) (opL Q) := rangeAt_keep hr2 (h12.block b' (rangeAt_lt hr2 (by intro e; cases e)))
        have HT := Lib.hid h12
        have h23 : Ext W1 (W1.alloc (.cells (opA Q) 58)) := (Ext.refl W1).alloc' _
        have hn1 : (W1.alloc (.cells (opA Q) 58)).rangeAt wr.heap.size 0 (opL R) := by
          have hb : Blk W1 wr.heap.size 58 (opA R) := by rw [← hW1]; exact Blk.new wr _ _
          exact rangeAt_of_blk (hb.ext h23)
        have hn2 : (W1.alloc (.cells (opA Q) 58)).rangeAt W1.heap.size 0 (opL Q) := rangeAt_of_blk (Blk.new W1 58 (opA Q))
        have HU := Lib.hid h23
        clear h12 h23 hr2
        go_wp2_with (first | (with_reducible refine wpList_loadO rfl (.tmp 20) rfl b (of + k * 23) rfl R hr1 ?_) | (with_reducible refine wpList_newO rfl (.tmp 8) (.tmp 21) rfl _ rfl R rfl rfl ?_) | (with_reducible refine wpList_loadO rfl (.tmp 24) rfl b' (of' + k * 23) rfl Q hr2' ?_) | (with_reducible refine wpList_newO rfl (.tmp 9) (.tmp 25) rfl _ rfl Q rfl rfl ?_) | (with_reducible refine wpList_loadO rfl (.tmp 8) rfl wr.heap.size 0 rfl R hn1 ?_) | (with_reducible refine wpList_loadO rfl (.tmp 9) rfl W1.heap.size 0 rfl Q hn2 ?_))
        refine (scrSameOp_op R Q _ (HOK.out.ext (HX.out.trans (HT.out.trans HU.out))) (HOK'.out.ext (HX.out.trans (HT.out.trans HU.out)))).mono ?_
        rintro e w1 ⟨rfl, he1⟩
        have HX1 := Lib.hid (HX.out.trans (HT.out.trans (HU.out.trans he1)))
        clear he1 hr1 hr2' hn1 hn2 hW1 HT HU
        cases hv : eqOp R Q with
        | true =>
          have HQ' := Lib.hid (HQ.out hv)
          clear hv
          go_wp2_with fail
          go_roundw
          case rel => exact ⟨k + 1, by omega, by go_num, HQ', HX1.out⟩
          case measure => simp [intOf]; omega
        | false =>
          have HN' := Lib.hid (HN.out hv)
          clear hv
          go_wp2_with fail
          go_ret
          exact ⟨by rw [HN'.out]; rfl, HX1.out⟩
      · obtain rfl : k = n := by omega
        have HV := Lib.hid (show eqG eqOp L M = true from eqG_yes (by rw [HL.out, HM.out]) (fun j hj => HP.out j (by rw [HL.out] at hj; exact hj)))
        go_wp2_with fail
        go_ret
        exact ⟨by rw [HV.out]; rfl, HX.out⟩
  · have HV := Lib.hid (show eqG eqOp L M = false from eqG_len (by rw [HL.out, HM.out]; exact hn))
    have d1 : ((n : Int) == (n' : Int)) = false := by simp; omega
    have d2 : decide ((n : Int) = (n' : Int)) = false := decide_eq_false (by omega)
    clear hS hS' hn
    go_enter Try.func20, Try.ntmps20
    go_wp2_with fail
    go_ret
    exact ⟨by rw [HV.out]; rfl, Ext.refl _⟩
end Go.Proofs.Ytjlnmpjffogpdaa
