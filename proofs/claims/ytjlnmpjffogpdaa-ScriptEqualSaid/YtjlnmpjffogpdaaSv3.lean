/- SameView (the reference's). -/
import Derived.Test.YtjlnmpjffogpdaaSv2
namespace Go.Proofs.Ytjlnmpjffogpdaa
open Go.RowKit
set_option linter.unusedVariables false
set_option linter.unusedSimpArgs false
attribute [local go_sem ↓] Go.wp_at_zero Go.wp_at_succ

theorem yields_loadSg {ops : Array Oper} {S : World → Prop} {o : Oper} {a : Act} (hw : Region.wanted o (yielded ops a.tmps) = true) (x : Operand) (ho : o.op = .load 45 x) (b of : Nat) (hx : a.eval x = .pointer (some ⟨b, of, none⟩)) (R : SgR) (hS : ∀ w, S w → w.rangeAt b of (sgL R)) : YieldsIf Try.prog ops S o (.agg (sgA R)) a := by
  have := yieldsIf_load_mid (P := Try.prog) (S := S) hw 45 x ho b of hx (sgL R) _ hS Try.underlying45 rfl (by rw [sgL_length]; kernel_rfl)
  rw [sgL_arr] at this
  exact this
set_option maxRecDepth 100000 in
set_option maxHeartbeats 4000000 in
theorem sameView_any (A : Option Addr) (n c : Nat) (L : List SgR) (B : Option Addr) (m d : Nat) (X : List TeR) (A' : Option Addr) (n' c' : Nat) (L' : List SgR) (B' : Option Addr) (m' d' : Nat) (X' : List TeR) (w : World) (h1 : SlG w A n c L) (h2 : SlG w B m d X) (h1' : SlG w A' n' c' L') (h2' : SlG w B' m' d' X') :
    Calls Try.prog 12 #[.agg (vwA A n c B m d), .agg (vwA A' n' c' B' m' d')] w fun e w' => e = .returned (.bool (eqVw L X L' X')) ∧ Ext w w' := by
  have hle := h1.le
  have hcap := h1.cap
  have hle' := h1'.le
  have hcap' := h1'.cap
  have HL := Lib.hid h1.len
  have HM := Lib.hid h1'.len
  have hE := ((Ext.refl w).alloc' (.cells (vwA A n c B m d) 32)).alloc' (.cells (vwA A' n' c' B' m' d') 32)
  have HB1 := Lib.hid ((Blk.new w 32 (vwA A n c B m d)).alloc (.cells (vwA A' n' c' B' m' d') 32))
  have HB2 := Lib.hid (show Blk ((w.alloc (.cells (vwA A n c B m d) 32)).alloc (.cells (vwA A' n' c' B' m' d') 32)) (w.heap.size + 1) 32 (vwA A' n' c' B' m' d') from Blk.newAt _ _ _ _ (by simp))
  have HE := Lib.hid hE
  have HS := Lib.hid (h1.ext hE)
  have HS' := Lib.hid (h1'.ext hE)
  have HG := Lib.hid (fun (W : World) (h : Ext w W) => sameTexts_any B m d X B' m' d' X' W (h2.ext h) (h2'.ext h))
  have HV := Lib.hid (show eqVw L X L' X' = (eqG eqSg L L' && eqG eqTe X X') from rfl)
  obtain ⟨w0, hw0⟩ : ∃ w0, (w.alloc (.cells (vwA A n c B m d) 32)).alloc (.cells (vwA A' n' c' B' m' d') 32) = w0 := ⟨_, rfl⟩
  rw [hw0] at HB1 HB2 HE HS HS'
  have HQ := Lib.hid (fun (W : World) (h : Ext w0 W) => (⟨vw_facts (HB1.out.ext h), vw_facts (HB2.out.ext h)⟩ : (W.cell? ⟨w.heap.size, 0, none⟩ = some (.slice A n c) ∧ W.cell? ⟨w.heap.size, 1, none⟩ = some (.slice B m d)) ∧ (W.cell? ⟨w.heap.size + 1, 0, none⟩ = some (.slice A' n' c') ∧ W.cell? ⟨w.heap.size + 1, 1, none⟩ = some (.slice B' m' d'))))
  obtain ⟨⟨p1, p2⟩, q1, q2⟩ := HQ.out _ (Ext.refl _)
  clear h1 h2 h1' h2' hE
  by_cases hn : n = n'
  · subst hn
    have HCA := Lib.hid (show n = 0 ∨ ((∃ b o, A = some ⟨b, o, none⟩ ∧ w0.rangeAt b o (gcs L) ∧ b < w0.heap.size) ∧ ∃ b o, A' = some ⟨b, o, none⟩ ∧ w0.rangeAt b o (gcs L') ∧ b < w0.heap.size) from by
      rcases Nat.eq_zero_or_pos n with h0 | h0
      · exact .inl h0
      · exact .inr ⟨HS.out.at h0, HS'.out.at h0⟩)
    go_enter Try.func12, Try.ntmps12
    go_wp2_with fail
    clear p1 p2 q1 q2
    go_loopw [5] (fun i wr => ∃ k : Nat, k ≤ n ∧ i = .int .i64 (k : Int) ∧ Hid (∀ j, j < k → eqSg (nthG L j) (nthG L' j) = true) ∧ Hid (Ext w0 wr)) (fun i _ => n - (intOf i).toNat)
    case atStart => exact ⟨0, Nat.zero_le _, rfl, Lib.hid (fun j hj => by omega), Lib.hid (Ext.refl _)⟩
    case round =>
      obtain ⟨k, hk, rfl, HP, HX⟩ := hrel
      obtain ⟨⟨p1, p2⟩, q1, q2⟩ := HQ.out _ HX.out
      by_cases hlt : k < n
      · rcases HCA.out with h0 | ⟨⟨b, of, rfl, hr, hb⟩, b', of', rfl, hr', hb'⟩
        · omega
        have hr1 : wr.rangeAt b (of + k * 23) (sgL (nthG L k)) := el_at (rangeAt_keep hr (HX.out.block b hb)) (k := k) (by rw [HL.out]; exact hlt)
        have hr2 : wr.rangeAt b' (of' + k * 23) (sgL (nthG L' k)) := el_at (rangeAt_keep hr' (HX.out.block b' hb')) (k := k) (by rw [HM.out]; exact hlt)
        clear hr hr' hb hb' HCA
        have HOK := Lib.hid (HS.out.nth hlt : (nthG L k).ok w0)
        have HOK' := Lib.hid (HS'.out.nth hlt : (nthG L' k).ok w0)
        have HY := Lib.hid (fun (hx : eqSg (nthG L k) (nthG L' k) = true) => show ∀ j, j < k + 1 → eqSg (nthG L j) (nthG L' j) = true from fun j hj => by
          rcases Nat.lt_or_ge j k with h | h
          · exact HP.out j h
          · obtain rfl : j = k := by omega
            exact hx)
        have HN := Lib.hid (fun (hx : eqSg (nthG L k) (nthG L' k) = false) => show eqVw L X L' X' = false by rw [HV.out, eqG_at (by rw [HL.out]; exact hlt) hx, Bool.false_and])
        have i0 : (0 : Int) ≤ (k : Int) := by omega
        have i1 : (k : Int) < (n : Int) := by omega
        obtain ⟨R, hR⟩ : ∃ R, nthG L k = R := ⟨_, rfl⟩
        obtain ⟨Q, hQ⟩ : ∃ Q, nthG L' k = Q := ⟨_, rfl⟩
        rw [hR, hQ] at HY HN
        rw [hR] at hr1 HOK
        rw [hQ] at hr2 HOK'
        clear hR hQ
        have HR1 := Lib.hid (fun (W : World) (h : Ext wr W) => rangeAt_keep hr1 (h.block b (rangeAt_lt hr1 (by intro e; cases e))))
        have HR2 := Lib.hid (fun (W : World) (h : Ext wr W) => rangeAt_keep hr2 (h.block b' (rangeAt_lt hr2 (by intro e; cases e))))
        clear hr1 hr2
        go_wp2_with fail
        clear p1 p2 q1 q2
        refine wp_region_plan (S := fun W => Ext wr W) (by kernel_rfl) (by kernel_rfl) ((Ext.refl wr).drew') ?_
        (refine plan_take (i := 0) (oi := { dst := some 20, op := Op.fieldAddr 32 (Operand.tmp 2) 0, type := 0, pos := "snapshot.go:72", after := #[], guard := none }) (v := ?_) rfl (by kernel_rfl) (by kernel_rfl) (fx_read (Or.inl ⟨by rfl, ?hy0⟩)) ?_; case hy0 => (intro W hSW; obtain ⟨⟨s1, s2⟩, s3, s4⟩ := HQ.out W (HX.out.trans hSW); go_simp <;> with_reducible rfl))
        try simp only [Act.put, List.setIfInBounds_toArray, List.set_cons_zero, List.set_cons_succ]
        (refine plan_take (i := 1) (oi := { dst := some 21, op := Op.load 29 (Operand.tmp 20), type := 29, pos := "snapshot.go:72", after := #[{ on := 0, ground := Ground.data }], guard := none }) (v := ?_) rfl (by kernel_rfl) (by kernel_rfl) (fx_read (Or.inl ⟨by rfl, ?hy1⟩)) ?_; case hy1 => (intro W hSW; obtain ⟨⟨s1, s2⟩, s3, s4⟩ := HQ.out W (HX.out.trans hSW); go_simp <;> with_reducible rfl))
        try simp only [Act.put, List.setIfInBounds_toArray, List.set_cons_zero, List.set_cons_succ]
        (refine plan_take (i := 2) (oi := { dst := some 22, op := Op.move (Operand.tmp 5), type := 3, pos := "snapshot.go:72", after := #[], guard := none }) (v := ?_) rfl (by kernel_rfl) (by kernel_rfl) (fx_read (Or.inl ⟨by rfl, ?hy2⟩)) ?_; case hy2 => (intro W hSW; obtain ⟨⟨s1, s2⟩, s3, s4⟩ := HQ.out W (HX.out.trans hSW); go_simp <;> with_reducible rfl))
        try simp only [Act.put, List.setIfInBounds_toArray, List.set_cons_zero, List.set_cons_succ]
        (refine plan_take (i := 3) (oi := { dst := some 23, op := Op.indexAddr 29 (Operand.tmp 21) (Operand.tmp 22), type := 0, pos := "snapshot.go:72", after := #[{ on := 1, ground := Ground.data }, { on := 2, ground := Ground.data }], guard := none }) (v := ?_) rfl (by kernel_rfl) (by kernel_rfl) (fx_read (Or.inl ⟨by rfl, ?hy3⟩)) ?_; case hy3 => (intro W hSW; obtain ⟨⟨s1, s2⟩, s3, s4⟩ := HQ.out W (HX.out.trans hSW); go_simp <;> with_reducible rfl))
        try simp only [Act.put, List.setIfInBounds_toArray, List.set_cons_zero, List.set_cons_succ]
        (refine plan_take (i := 4) (oi := { dst := some 24, op := Op.load 45 (Operand.tmp 23), type := 45, pos := "snapshot.go:72", after := #[{ on := 3, ground := Ground.data }], guard := none }) (v := .agg (sgA R)) rfl (by kernel_rfl) (by kernel_rfl) (fx_read ?hy4) ?_; case hy4 => (refine yields_loadSg ?hw (.tmp 23) rfl b (of + k * 23) ?hx R HR1.out; (case hw => rfl); (case hx => rfl)))
        try simp only [Act.put, List.setIfInBounds_toArray, List.set_cons_zero, List.set_cons_succ]
        (refine plan_take (i := 5) (oi := { dst := some 25, op := Op.fieldAddr 32 (Operand.tmp 3) 0, type := 0, pos := "snapshot.go:72", after := #[], guard := none }) (v := ?_) rfl (by kernel_rfl) (by kernel_rfl) (fx_read (Or.inl ⟨by rfl, ?hy5⟩)) ?_; case hy5 => (intro W hSW; obtain ⟨⟨s1, s2⟩, s3, s4⟩ := HQ.out W (HX.out.trans hSW); go_simp <;> with_reducible rfl))
        try simp only [Act.put, List.setIfInBounds_toArray, List.set_cons_zero, List.set_cons_succ]
        (refine plan_take (i := 6) (oi := { dst := some 26, op := Op.load 29 (Operand.tmp 25), type := 29, pos := "snapshot.go:72", after := #[{ on := 5, ground := Ground.data }], guard := none }) (v := ?_) rfl (by kernel_rfl) (by kernel_rfl) (fx_read (Or.inl ⟨by rfl, ?hy6⟩)) ?_; case hy6 => (intro W hSW; obtain ⟨⟨s1, s2⟩, s3, s4⟩ := HQ.out W (HX.out.trans hSW); go_simp <;> with_reducible rfl))
        try simp only [Act.put, List.setIfInBounds_toArray, List.set_cons_zero, List.set_cons_succ]
        (refine plan_take (i := 7) (oi := { dst := some 27, op := Op.move (Operand.tmp 5), type := 3, pos := "snapshot.go:72", after := #[], guard := none }) (v := ?_) rfl (by kernel_rfl) (by kernel_rfl) (fx_read (Or.inl ⟨by rfl, ?hy7⟩)) ?_; case hy7 => (intro W hSW; obtain ⟨⟨s1, s2⟩, s3, s4⟩ := HQ.out W (HX.out.trans hSW); go_simp <;> with_reducible rfl))
        try simp only [Act.put, List.setIfInBounds_toArray, List.set_cons_zero, List.set_cons_succ]
        (refine plan_take (i := 8) (oi := { dst := some 28, op := Op.indexAddr 29 (Operand.tmp 26) (Operand.tmp 27), type := 0, pos := "snapshot.go:72", after := #[{ on := 6, ground := Ground.data }, { on := 7, ground := Ground.data }], guard := none }) (v := ?_) rfl (by kernel_rfl) (by kernel_rfl) (fx_read (Or.inl ⟨by rfl, ?hy8⟩)) ?_; case hy8 => (intro W hSW; obtain ⟨⟨s1, s2⟩, s3, s4⟩ := HQ.out W (HX.out.trans hSW); go_simp <;> with_reducible rfl))
        try simp only [Act.put, List.setIfInBounds_toArray, List.set_cons_zero, List.set_cons_succ]
        (refine plan_take (i := 9) (oi := { dst := some 29, op := Op.load 45 (Operand.tmp 28), type := 45, pos := "snapshot.go:72", after := #[{ on := 8, ground := Ground.data }], guard := none }) (v := .agg (sgA Q)) rfl (by kernel_rfl) (by kernel_rfl) (fx_read ?hy9) ?_; case hy9 => (refine yields_loadSg ?hw (.tmp 28) rfl b' (of' + k * 23) ?hx Q HR2.out; (case hw => rfl); (case hx => rfl)))
        try simp only [Act.put, List.setIfInBounds_toArray, List.set_cons_zero, List.set_cons_succ]
        (refine plan_take (i := 10) (oi := { dst := some 30, op := Op.call { callee := Callee.value (Operand.func 35), args := #[Operand.tmp 24, Operand.tmp 29], argTypes := #[45, 45] }, type := 4, pos := "snapshot.go:72", after := #[{ on := 4, ground := Ground.data }, { on := 9, ground := Ground.data }], guard := none }) (v := ?_) rfl (by kernel_rfl) (by kernel_rfl) (fx_call (by rfl) (fun W hSW K hK => ?hy10)) ?_; case hy10 => (go_simp; go_at_call 35; (with_reducible refine (sameSigned_any R Q W (SgR.ok.ext HOK.out (HX.out.trans hSW)) (SgR.ok.ext HOK'.out (HX.out.trans hSW))).mono ?_); rintro e w1 ⟨rfl, he1⟩; exact hK.out _ (hSW.trans he1)))
        try simp only [Act.put, List.setIfInBounds_toArray, List.set_cons_zero, List.set_cons_succ]
        (refine plan_take (i := 11) (oi := { dst := some 31, op := Op.unOp UnOp.not 4 (Operand.tmp 30), type := 4, pos := "snapshot.go:72", after := #[{ on := 10, ground := Ground.data }], guard := none }) (v := ?_) rfl (by kernel_rfl) (by kernel_rfl) (fx_read (Or.inl ⟨by rfl, ?hy11⟩)) ?_; case hy11 => (intro W hSW; obtain ⟨⟨s1, s2⟩, s3, s4⟩ := HQ.out W (HX.out.trans hSW); go_simp <;> with_reducible rfl))
        try simp only [Act.put, List.setIfInBounds_toArray, List.set_cons_zero, List.set_cons_succ]
        refine Plan.done (by kernel_rfl) (fun W hSW => ?_)
        have HX1 := Lib.hid (HX.out.trans hSW)
        clear hSW
        cases hv : eqSg R Q with
        | true =>
          have HY' := Lib.hid (HY.out hv)
          clear hv
          go_wp2_with fail
          go_roundw
          case rel => exact ⟨k + 1, by omega, by go_num, HY', HX1⟩
          case measure => simp [intOf]; omega
        | false =>
          have HN' := Lib.hid (HN.out hv)
          clear hv
          go_wp2_with fail
          go_ret
          exact ⟨by rw [HN'.out]; rfl, HE.out.trans HX1.out⟩
      · obtain rfl : k = n := by omega
        have HV' := Lib.hid (show eqVw L X L' X' = eqG eqTe X X' by rw [HV.out, eqG_yes (by rw [HL.out, HM.out]) (fun j hj => HP.out j (by rw [HL.out] at hj; exact hj)), Bool.true_and])
        go_wp2_with fail
        refine (HG.out _ (HE.out.trans HX.out)).mono ?_
        rintro e w2 ⟨rfl, he2⟩
        have HX2 := Lib.hid (HE.out.trans (HX.out.trans he2))
        clear he2
        go_wp2_with fail
        go_ret
        exact ⟨by rw [HV'.out]; rfl, HX2.out⟩
  · have HV' := Lib.hid (show eqVw L X L' X' = false by rw [HV.out, eqG_len (by rw [HL.out, HM.out]; exact hn), Bool.false_and])
    have d1 : ((n : Int) == (n' : Int)) = false := by simp; omega
    have d2 : decide ((n : Int) = (n' : Int)) = false := decide_eq_false (by omega)
    clear hn
    go_enter Try.func12, Try.ntmps12
    go_wp2_with fail
    go_ret
    exact ⟨by rw [HV'.out]; rfl, HE.out⟩
end Go.Proofs.Ytjlnmpjffogpdaa
