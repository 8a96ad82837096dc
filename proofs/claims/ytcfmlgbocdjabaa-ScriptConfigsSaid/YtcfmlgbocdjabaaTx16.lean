/- SameTx, EqualTx (the reference's). -/
import Derived.Test.YtcfmlgbocdjabaaTx15
namespace Go.Proofs.Ytcfmlgbocdjabaa
open Go.RowKit
set_option linter.unusedVariables false
set_option linter.unusedSimpArgs false
attribute [local go_sem ↓] Go.wp_at_zero Go.wp_at_succ

theorem yields_loadO {ops : Array Oper} {S : World → Prop} {o : Oper} {a : Act} (hgd : o.guard = none) (x : Operand) (ho : o.op = .load 114 x) (b of : Nat) (hx : a.eval x = .pointer (some ⟨b, of, none⟩)) (R : OpR) (hS : ∀ w, S w → w.rangeAt b of (opL R)) : YieldsIf Try.prog ops S o (.agg (opA R)) a := by
  have hw : Region.wanted o (yielded ops a.tmps) = true := by simp [Region.wanted, hgd]
  have := yieldsIf_load_mid (P := Try.prog) (S := S) hw 114 x ho b of hx (opL R) _ hS Try.underlying114 rfl (by rw [opL_length]; kernel_rfl)
  rw [opL_arr] at this
  exact this
/-! an operation that is loaded in a region that draws its order: by a rule that comes ahead of the walk's own (else it reads cell by cell, and the kernel runs out of memory) -/
def wholeO (w : World) (b of : Nat) : Prop := ∃ R, w.rangeAt b of (opL R)
def cellsO (w : World) (b of : Nat) : Array Value := ((List.range 23).map fun i => (w.cell? ⟨b, of + i, none⟩).getD undef).toArray
theorem cellsO_eq {w : World} {b of : Nat} {R : OpR} (h : w.rangeAt b of (opL R)) : cellsO w b of = opA R := by
  unfold cellsO
  rw [← opL_arr]
  congr 1
  apply List.ext_getElem?
  intro i
  by_cases hi : i < 23
  · have h1 : i < (opL R).length := hi
    rw [List.getElem?_map, List.getElem?_range hi, Option.map_some, h i _ (List.getElem?_eq_getElem h1), List.getElem?_eq_getElem h1]
    rfl
  · rw [List.getElem?_eq_none (by simp; omega), List.getElem?_eq_none (by rw [opL_length]; omega)]
theorem run_loadW {w : World} {b of : Nat} (h : wholeO w b of) : (loadVar 114 ⟨b, of, none⟩).run Try.prog w = .ok (.agg (cellsO w b of)) w := by
  obtain ⟨R, hR⟩ := h
  have := run_loadVar_mid (P := Try.prog) w b of 114 (opL R) _ hR Try.underlying114 rfl (by rw [opL_length]; kernel_rfl)
  rw [this, cellsO_eq hR, opL_arr]
/-- whether two lists of operations have the same contents -/
def eqL (L M : List OpR) : Bool := decide (L.length = M.length ∧ ∀ k, k < L.length → eqV (nthO L k).v (nthO M k).v = true)
theorem nthO_v {L : List OpR} {k : Nat} (h : k < L.length) : (L.map OpR.v)[k]? = some (nthO L k).v := by
  simp [nthO, h]
theorem eqL_iff (L M : List OpR) : eqL L M = true ↔ L.map OpR.v = M.map OpR.v := by
  unfold eqL
  simp only [decide_eq_true_eq]
  constructor
  · rintro ⟨h1, h2⟩
    apply List.ext_getElem?
    intro k
    by_cases hk : k < L.length
    · rw [nthO_v hk, nthO_v (by omega), (eqV_iff _ _).1 (h2 k hk)]
    · rw [List.getElem?_eq_none (by simp; omega), List.getElem?_eq_none (by simp; omega)]
  · intro h
    have hl : L.length = M.length := by have := congrArg List.length h; simpa using this
    refine ⟨hl, fun k hk => (eqV_iff _ _).2 ?_⟩
    have := congrArg (fun l => l[k]?) h
    simp only [nthO_v hk, nthO_v (show k < M.length by omega)] at this
    injection this
theorem eqL_len {L M : List OpR} (h : L.length ≠ M.length) : eqL L M = false := by unfold eqL; exact decide_eq_false (fun hh => h hh.1)
theorem eqL_at {L M : List OpR} {k : Nat} (hk : k < L.length) (h : eqV (nthO L k).v (nthO M k).v = false) : eqL L M = false := by
  unfold eqL; exact decide_eq_false (fun hh => by rw [hh.2 k hk] at h; cases h)
theorem eqL_yes {L M : List OpR} (h1 : L.length = M.length) (h2 : ∀ k, k < L.length → eqV (nthO L k).v (nthO M k).v = true) : eqL L M = true := decide_eq_true ⟨h1, h2⟩
def eqX (ac sq : Int) (L : List OpR) (ac' sq' : Int) (L' : List OpR) : Bool := decide (ac = ac') && (decide (sq = sq') && eqL L L')
def eqT (T U : TxR) : Bool := eqX T.ac T.sq T.L U.ac U.sq U.L && decide (T.sig = U.sig)
theorem eqT_iff (T U : TxR) : eqT T U = true ↔ T.v = U.v := by
  unfold eqT eqX TxR.v
  simp only [Bool.and_eq_true, decide_eq_true_eq, eqL_iff, Prod.mk.injEq]
  constructor
  · rintro ⟨⟨h1, h2, h3⟩, h4⟩; exact ⟨h1, h2, h3, h4⟩
  · rintro ⟨h1, h2, h3, h4⟩; exact ⟨⟨h1, h2, h3⟩, h4⟩
theorem tx_facts' {w : World} {g : Nat} {t : TypeId} {ac sq : Int} {A : Option Addr} {n c : Nat} (h : Blk w g t (txA ac sq A n c)) : w.cell? ⟨g, 0, none⟩ = some (.int .i64 ac) ∧ w.cell? ⟨g, 1, none⟩ = some (.int .i64 sq) ∧ w.cell? ⟨g, 2, none⟩ = some (.slice A n c) :=
  ⟨h.cell 0, h.cell 1, h.cell 2⟩
set_option maxRecDepth 100000 in
set_option maxHeartbeats 4000000 in
theorem sameTx_any (ac sq : Int) (A : Option Addr) (n c : Nat) (L : List OpR) (ac' sq' : Int) (A' : Option Addr) (n' c' : Nat) (M : List OpR) (w : World) (hS : SlO w A n c L) (hS' : SlO w A' n' c' M) :
    Calls Try.prog 30 #[.agg (txA ac sq A n c), .agg (txA ac' sq' A' n' c')] w fun e w' => e = .returned (.bool (eqX ac sq L ac' sq' M)) ∧ Ext w w' := by
  have hle := hS.le
  have hcap := hS.cap
  have hle' := hS'.le
  have hcap' := hS'.cap
  have HL := Lib.hid hS.len
  have HM := Lib.hid hS'.len
  have hE := ((Ext.refl w).alloc' (.cells (txA ac sq A n c) 48)).alloc' (.cells (txA ac' sq' A' n' c') 48)
  have HB1 := Lib.hid ((Blk.new w 48 (txA ac sq A n c)).alloc (.cells (txA ac' sq' A' n' c') 48))
  have HB2 := Lib.hid (show Blk ((w.alloc (.cells (txA ac sq A n c) 48)).alloc (.cells (txA ac' sq' A' n' c') 48)) (w.heap.size + 1) 48 (txA ac' sq' A' n' c') from Blk.newAt _ _ _ _ (by simp))
  have HE := Lib.hid hE
  have HS := Lib.hid (hS.ext hE)
  have HS' := Lib.hid (hS'.ext hE)
  clear hS hS' hE
  by_cases h1 : ac = ac'
  · by_cases h2 : sq = sq'
    · by_cases h3 : n = n'
      · subst h1; subst h2; subst h3
        have HV := Lib.hid (show eqX ac sq L ac sq M = eqL L M by unfold eqX; simp)
        obtain ⟨w0, hw0⟩ : ∃ w0, (w.alloc (.cells (txA ac sq A n c) 48)).alloc (.cells (txA ac sq A' n c') 48) = w0 := ⟨_, rfl⟩
        rw [hw0] at HB1 HB2 HE HS HS'
        have HQ := Lib.hid (fun (W : World) (h : Ext w0 W) => show W.cell? ⟨w.heap.size, 2, none⟩ = some (.slice A n c) ∧ W.cell? ⟨w.heap.size + 1, 2, none⟩ = some (.slice A' n c') from ⟨(HB1.out.ext h).cell 2, (HB2.out.ext h).cell 2⟩)
        have HCA := Lib.hid (show n = 0 ∨ ((∃ b o, A = some ⟨b, o, none⟩ ∧ w0.rangeAt b o (ocs L) ∧ b < w0.heap.size) ∧ ∃ b o, A' = some ⟨b, o, none⟩ ∧ w0.rangeAt b o (ocs M) ∧ b < w0.heap.size) from by
          rcases Nat.eq_zero_or_pos n with h0 | h0
          · exact .inl h0
          · exact .inr ⟨HS.out.at h0, HS'.out.at h0⟩)
        have p0 : w0.cell? ⟨w.heap.size, 0, none⟩ = some (.int .i64 ac) := HB1.out.cell 0
        have p1 : w0.cell? ⟨w.heap.size, 1, none⟩ = some (.int .i64 sq) := HB1.out.cell 1
        have p2 : w0.cell? ⟨w.heap.size, 2, none⟩ = some (.slice A n c) := HB1.out.cell 2
        have p3 : w0.cell? ⟨w.heap.size + 1, 0, none⟩ = some (.int .i64 ac) := HB2.out.cell 0
        have p4 : w0.cell? ⟨w.heap.size + 1, 1, none⟩ = some (.int .i64 sq) := HB2.out.cell 1
        have p5 : w0.cell? ⟨w.heap.size + 1, 2, none⟩ = some (.slice A' n c') := HB2.out.cell 2
        go_enter Try.func30, Try.ntmps30
        go_wp2_with fail
        clear hw0 p0 p1 p2 p3 p4 p5
        go_loopw [5] (fun i wr => ∃ k : Nat, k ≤ n ∧ i = .int .i64 (k : Int) ∧ Hid (∀ j, j < k → eqV (nthO L j).v (nthO M j).v = true) ∧ Hid (Ext w0 wr)) (fun i _ => n - (intOf i).toNat)
        case atStart => exact ⟨0, Nat.zero_le _, rfl, Lib.hid (fun j hj => by omega), Lib.hid (Ext.refl _)⟩
        case round =>
          obtain ⟨k, hk, rfl, HP, HX⟩ := hrel
          obtain ⟨q2, q5⟩ := HQ.out _ HX.out
          by_cases hlt : k < n
          · obtain ⟨⟨b, o, rfl, hr0, hb0⟩, b', o', rfl, hr0', hb0'⟩ : (∃ b o, A = some ⟨b, o, none⟩ ∧ w0.rangeAt b o (ocs L) ∧ b < w0.heap.size) ∧ ∃ b o, A' = some ⟨b, o, none⟩ ∧ w0.rangeAt b o (ocs M) ∧ b < w0.heap.size := by
              rcases HCA.out with h0 | h0
              · omega
              · exact h0
            have hXd := HX.out.drew'
            have HR1 := Lib.hid (op_at (rangeAt_keep hr0 (hXd.block b hb0)) (k := k) (by rw [HL.out]; exact hlt))
            have HR2 := Lib.hid (op_at (rangeAt_keep hr0' (hXd.block b' hb0')) (k := k) (by rw [HM.out]; exact hlt))
            have HOK1 := Lib.hid ((HS.out.nth hlt).ext hXd)
            have HOK2 := Lib.hid ((HS'.out.nth hlt).ext hXd)
            have HN := Lib.hid (fun (h : eqV (nthO L k).v (nthO M k).v = false) => eqL_at (L := L) (M := M) (by rw [HL.out]; exact hlt) h)
            have HY := Lib.hid (fun (hx : eqV (nthO L k).v (nthO M k).v = true) => show ∀ j, j < k + 1 → eqV (nthO L j).v (nthO M j).v = true from fun j hj => by
              rcases Nat.lt_or_ge j k with h | h
              · exact HP.out j h
              · obtain rfl : j = k := by omega
                exact hx)
            have i0 : (0 : Int) ≤ (k : Int) := by omega
            have i1 : (k : Int) < (n : Int) := by omega
            obtain ⟨R, hR⟩ : ∃ R, nthO L k = R := ⟨_, rfl⟩
            obtain ⟨Q, hQ⟩ : ∃ Q, nthO M k = Q := ⟨_, rfl⟩
            rw [hR, hQ] at HN HY
            rw [hR] at HR1 HOK1
            rw [hQ] at HR2 HOK2
            clear hR hQ hr0 hr0'
            have HSO := Lib.hid (sameOp_any R Q wr.drew HOK1.out HOK2.out)
            have HSH := Lib.hid (fun (W : World) (h : Ext wr.drew W) => show W.rangeAt b (o + k * 23) (opL R) ∧ W.rangeAt b' (o' + k * 23) (opL Q) ∧ W.cell? ⟨w.heap.size, 2, none⟩ = some (.slice (some ⟨b, o, none⟩) n c) ∧ W.cell? ⟨w.heap.size + 1, 2, none⟩ = some (.slice (some ⟨b', o', none⟩) n c') from
              ⟨rangeAt_keep HR1.out (h.block b (Nat.lt_of_lt_of_le hb0 hXd.size)), rangeAt_keep HR2.out (h.block b' (Nat.lt_of_lt_of_le hb0' hXd.size)), HQ.out W (hXd.trans h)⟩)
            clear hb0 hb0'
            go_wp2_with fail
            clear q2 q5
            refine wp_region_held_drew (S := fun w' => w'.rangeAt b (o + k * 23) (opL R) ∧ w'.rangeAt b' (o' + k * 23) (opL Q) ∧ w'.cell? ⟨w.heap.size, 2, none⟩ = some (.slice (some ⟨b, o, none⟩) n c) ∧ w'.cell? ⟨w.heap.size + 1, 2, none⟩ = some (.slice (some ⟨b', o', none⟩) n c')) (by kernel_rfl) (HSH.out _ (Ext.refl _)) (fun hHeld => ?_)
            refine wpAnyH_take (i := 0) (oi := ⟨some 34, .fieldAddr 48 (.tmp 2) 2, 0, "tx.go:250", #[], none⟩) (v := ?_) rfl (by kernel_rfl) (by kernel_rfl) (by kernel_rfl) (fun _ _ _ h => h) (Or.inl ⟨by rfl, ?hy0⟩) hHeld ?_
            case hy0 => (intro w hSw; obtain ⟨s1, s2, s3, s4⟩ := hSw; go_simp <;> with_reducible rfl)
            try simp only [Act.put, List.setIfInBounds_toArray, List.set_cons_zero, List.set_cons_succ]
            refine wpAnyH_take (i := 1) (oi := ⟨some 35, .load 46 (.tmp 34), 46, "tx.go:250", #[⟨0, .data⟩], none⟩) (v := ?_) rfl (by kernel_rfl) (by kernel_rfl) (by kernel_rfl) (fun _ _ _ h => h) (Or.inl ⟨by rfl, ?hy1⟩) hHeld ?_
            case hy1 => (intro w hSw; obtain ⟨s1, s2, s3, s4⟩ := hSw; go_simp <;> with_reducible rfl)
            try simp only [Act.put, List.setIfInBounds_toArray, List.set_cons_zero, List.set_cons_succ]
            refine wpAnyH_take (i := 2) (oi := ⟨some 36, .move (.tmp 5), 3, "tx.go:250", #[], none⟩) (v := ?_) rfl (by kernel_rfl) (by kernel_rfl) (by kernel_rfl) (fun _ _ _ h => h) (Or.inl ⟨by rfl, ?hy2⟩) hHeld ?_
            case hy2 => (intro w hSw; obtain ⟨s1, s2, s3, s4⟩ := hSw; go_simp <;> with_reducible rfl)
            try simp only [Act.put, List.setIfInBounds_toArray, List.set_cons_zero, List.set_cons_succ]
            refine wpAnyH_take (i := 3) (oi := ⟨some 37, .indexAddr 46 (.tmp 35) (.tmp 36), 0, "tx.go:250", #[⟨1, .data⟩, ⟨2, .data⟩], none⟩) (v := ?_) rfl (by kernel_rfl) (by kernel_rfl) (by kernel_rfl) (fun _ _ _ h => h) (Or.inl ⟨by rfl, ?hy3⟩) hHeld ?_
            case hy3 => (intro w hSw; obtain ⟨s1, s2, s3, s4⟩ := hSw; go_simp <;> with_reducible rfl)
            try simp only [Act.put, List.setIfInBounds_toArray, List.set_cons_zero, List.set_cons_succ]
            refine wpAnyH_take (i := 4) (oi := ⟨some 38, .load 114 (.tmp 37), 114, "tx.go:250", #[⟨3, .data⟩], none⟩) (v := .agg (opA R)) rfl (by kernel_rfl) (by kernel_rfl) (by kernel_rfl) (fun _ _ _ h => h) ?hy4 hHeld ?_
            case hy4 => (refine yields_loadO rfl (.tmp 37) rfl b (o + k * 23) ?hx4 R (fun w hS => hS.1); case hx4 => rfl)
            try simp only [Act.put, List.setIfInBounds_toArray, List.set_cons_zero, List.set_cons_succ]
            refine wpAnyH_take (i := 5) (oi := ⟨some 39, .fieldAddr 48 (.tmp 3) 2, 0, "tx.go:250", #[], none⟩) (v := ?_) rfl (by kernel_rfl) (by kernel_rfl) (by kernel_rfl) (fun _ _ _ h => h) (Or.inl ⟨by rfl, ?hy5⟩) hHeld ?_
            case hy5 => (intro w hSw; obtain ⟨s1, s2, s3, s4⟩ := hSw; go_simp <;> with_reducible rfl)
            try simp only [Act.put, List.setIfInBounds_toArray, List.set_cons_zero, List.set_cons_succ]
            refine wpAnyH_take (i := 6) (oi := ⟨some 40, .load 46 (.tmp 39), 46, "tx.go:250", #[⟨5, .data⟩], none⟩) (v := ?_) rfl (by kernel_rfl) (by kernel_rfl) (by kernel_rfl) (fun _ _ _ h => h) (Or.inl ⟨by rfl, ?hy6⟩) hHeld ?_
            case hy6 => (intro w hSw; obtain ⟨s1, s2, s3, s4⟩ := hSw; go_simp <;> with_reducible rfl)
            try simp only [Act.put, List.setIfInBounds_toArray, List.set_cons_zero, List.set_cons_succ]
            refine wpAnyH_take (i := 7) (oi := ⟨some 41, .move (.tmp 5), 3, "tx.go:250", #[], none⟩) (v := ?_) rfl (by kernel_rfl) (by kernel_rfl) (by kernel_rfl) (fun _ _ _ h => h) (Or.inl ⟨by rfl, ?hy7⟩) hHeld ?_
            case hy7 => (intro w hSw; obtain ⟨s1, s2, s3, s4⟩ := hSw; go_simp <;> with_reducible rfl)
            try simp only [Act.put, List.setIfInBounds_toArray, List.set_cons_zero, List.set_cons_succ]
            refine wpAnyH_take (i := 8) (oi := ⟨some 42, .indexAddr 46 (.tmp 40) (.tmp 41), 0, "tx.go:250", #[⟨6, .data⟩, ⟨7, .data⟩], none⟩) (v := ?_) rfl (by kernel_rfl) (by kernel_rfl) (by kernel_rfl) (fun _ _ _ h => h) (Or.inl ⟨by rfl, ?hy8⟩) hHeld ?_
            case hy8 => (intro w hSw; obtain ⟨s1, s2, s3, s4⟩ := hSw; go_simp <;> with_reducible rfl)
            try simp only [Act.put, List.setIfInBounds_toArray, List.set_cons_zero, List.set_cons_succ]
            refine wpAnyH_take (i := 9) (oi := ⟨some 43, .load 114 (.tmp 42), 114, "tx.go:250", #[⟨8, .data⟩], none⟩) (v := .agg (opA Q)) rfl (by kernel_rfl) (by kernel_rfl) (by kernel_rfl) (fun _ _ _ h => h) ?hy9 hHeld ?_
            case hy9 => (refine yields_loadO rfl (.tmp 42) rfl b' (o' + k * 23) ?hx9 Q (fun w hS => hS.2.1); case hx9 => rfl)
            try simp only [Act.put, List.setIfInBounds_toArray, List.set_cons_zero, List.set_cons_succ]
            refine wpAnyH_ready (rs := [10]) (by kernel_rfl) (by simp) ?_
            refine AllReadyH.cons (o := ⟨some 44, .call { callee := .value (.func 84), args := #[.tmp 38, .tmp 43], argTypes := #[114, 114] }, 4, "tx.go:250", #[⟨4, .data⟩, ⟨9, .data⟩], none⟩) rfl (fun K hK => ?_) AllReadyH.nil
            go_simp
            go_at_call 84
            (with_reducible refine HSO.out.mono ?_)
            rintro e w1 ⟨rfl, he1⟩
            refine hK.out _ _ (HSH.out _ he1) (fun hHeld2 => ?_)
            clear hK K
            try simp only [Act.put, List.setIfInBounds_toArray, List.set_cons_zero, List.set_cons_succ]
            refine wpAnyH_take (i := 11) (oi := ⟨some 45, .unOp .not 4 (.tmp 44), 4, "tx.go:250", #[⟨10, .data⟩], none⟩) (v := ?_) rfl (by kernel_rfl) (by kernel_rfl) (by kernel_rfl) (fun _ _ _ h => h) (Or.inl ⟨by rfl, ?hy11⟩) hHeld2 ?_
            case hy11 => (intro w hSw; obtain ⟨s1, s2, s3, s4⟩ := hSw; go_simp <;> with_reducible rfl)
            try simp only [Act.put, List.setIfInBounds_toArray, List.set_cons_zero, List.set_cons_succ]
            refine wpAnyH_done (by kernel_rfl) ?_ _
            have HX1 := Lib.hid (hXd.trans he1)
            clear he1 hXd hHeld hHeld2
            cases hv : eqV R.v Q.v with
            | true =>
              have HY' := Lib.hid (HY.out hv)
              clear hv
              go_wp2_with fail
              go_roundw
              case rel => exact ⟨k + 1, by omega, by go_num, HY', HX1⟩
              case measure => simp [intOf]; omega
            | false =>
              have HN' := Lib.hid (HN.out hv)
              clear hv
              go_wp2_with fail
              go_ret
              exact ⟨by rw [HV.out, HN'.out]; rfl, HE.out.trans HX1.out⟩
          · obtain rfl : k = n := by omega
            have HY := Lib.hid (show eqL L M = true from eqL_yes (by rw [HL.out, HM.out]) (fun j hj => HP.out j (by rw [HL.out] at hj; exact hj)))
            go_wp2_with fail
            go_ret
            exact ⟨by rw [HV.out, HY.out]; rfl, HE.out.trans HX.out⟩
      · have HV := Lib.hid (show eqX ac sq L ac' sq' M = false by unfold eqX; rw [eqL_len (by rw [HL.out, HM.out]; exact h3)]; simp)
        have x1 : ((n : Int) != (n' : Int)) = true := by simp; omega
        have x2 : ((n : Int) == (n' : Int)) = false := by simp; omega
        have x3 : decide ((n : Int) = (n' : Int)) = false := by simp; omega
        subst h1; subst h2
        clear h3
        go_enter Try.func30, Try.ntmps30
        go_wp2_with fail
        go_ret
        exact ⟨by rw [HV.out]; rfl, HE.out⟩
    · have HV := Lib.hid (show eqX ac sq L ac' sq' M = false by unfold eqX; rw [decide_eq_false h2]; simp)
      have x1 : (sq != sq') = true := by simp; omega
      have x2 : (sq == sq') = false := by simp; omega
      have x3 : decide (sq = sq') = false := by simp; omega
      subst h1
      clear h2
      go_enter Try.func30, Try.ntmps30
      go_wp2_with fail
      go_ret
      exact ⟨by rw [HV.out]; rfl, HE.out⟩
  · have HV := Lib.hid (show eqX ac sq L ac' sq' M = false by unfold eqX; rw [decide_eq_false h1]; simp)
    have x1 : (ac != ac') = true := by simp; omega
    have x2 : (ac == ac') = false := by simp; omega
    have x3 : decide (ac = ac') = false := by simp; omega
    clear h1
    go_enter Try.func30, Try.ntmps30
    go_wp2_with fail
    go_ret
    exact ⟨by rw [HV.out]; rfl, HE.out⟩
set_option maxRecDepth 100000 in
set_option maxHeartbeats 4000000 in
theorem equalTx_any (T U : TxR) (w : World) (hT : T.ok w) (hU : U.ok w) :
    Calls Try.prog 27 #[.agg (tA T), .agg (tA U)] w fun e w' => e = .returned (.bool (eqT T U)) ∧ Ext w w' := by
  have hE := ((Ext.refl w).alloc' (.cells (tA T) 50)).alloc' (.cells (tA U) 50)
  have HB1 := Lib.hid ((Blk.new w 50 (tA T)).alloc (.cells (tA U) 50))
  have HB2 := Lib.hid (show Blk ((w.alloc (.cells (tA T) 50)).alloc (.cells (tA U) 50)) (w.heap.size + 1) 50 (tA U) from Blk.newAt _ _ _ _ (by simp))
  have HE := Lib.hid hE
  have HS := Lib.hid (sameTx_any T.ac T.sq T.A T.n T.c T.L U.ac U.sq U.A U.n U.c U.L _ (hT.ops.ext hE) (hU.ops.ext hE))
  have HG1 := Lib.hid (hT.sig.ext hE)
  have HG2 := Lib.hid (hU.sig.ext hE)
  have HV := Lib.hid (show eqT T U = (eqX T.ac T.sq T.L U.ac U.sq U.L && decide (T.sig = U.sig)) from rfl)
  have hse := strV_eq T.sig U.sig
  obtain ⟨b1, e1⟩ : ∃ b, eqX T.ac T.sq T.L U.ac U.sq U.L = b := ⟨_, rfl⟩
  obtain ⟨b2, e2⟩ : ∃ b, decide (T.sig = U.sig) = b := ⟨_, rfl⟩
  rw [e1] at HS
  rw [e1, e2] at HV
  rw [e2] at hse
  clear hT hU hE e1 e2
  cases b1 with
  | false =>
    go_enter Try.func27, Try.ntmps27
    go_wp2_with fail
    refine HS.out.mono ?_
    rintro e w1 ⟨rfl, he1⟩
    go_wp2_with fail
    go_ret
    exact ⟨by rw [HV.out]; rfl, HE.out.trans he1⟩
  | true =>
    go_enter Try.func27, Try.ntmps27
    go_wp2_with fail
    refine HS.out.mono ?_
    rintro e w1 ⟨rfl, he1⟩
    have q3 := (st_facts (HB1.out.ext he1)).2.2.2
    have q7 := (st_facts (HB2.out.ext he1)).2.2.2
    have r1 := run_strV (HG1.out.ext he1)
    have r2 := run_strV (HG2.out.ext he1)
    go_wp2_with fail
    go_ret
    exact ⟨by rw [HV.out]; rfl, HE.out.trans he1⟩
end Go.Proofs.Ytcfmlgbocdjabaa
