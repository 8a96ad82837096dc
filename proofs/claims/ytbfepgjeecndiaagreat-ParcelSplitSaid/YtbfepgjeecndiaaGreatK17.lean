/- SameView (the reference's). -/
import Derived.Lib.BytesEntry
import Derived.Test.YtbfepgjeecndiaaGreatK10
import Derived.Test.YtbfepgjeecndiaaGreatK14
namespace Go.Proofs.YtbfepgjeecndiaaGreat
set_option maxRecDepth 100000
set_option maxHeartbeats 4000000
open Go.RowKit
set_option linter.unusedVariables false
set_option linter.unusedSimpArgs false
attribute [local go_sem ↓] Go.wp_at_zero Go.wp_at_succ
theorem yields_loadSg {ops : Array Oper} {S : World → Prop} {o : Oper} {a : Act} (hw : Region.wanted o (yielded ops a.tmps) = true) (x : Operand) (ho : o.op = .load 48 x) (b of : Nat) (hx : a.eval x = .pointer (some ⟨b, of, none⟩)) (R : SgR) (hS : ∀ w, S w → w.rangeAt b of (sgL R)) : YieldsIf Tryz.prog ops S o (.agg (sgA R)) a := by
 have := yieldsIf_load_mid (P := Tryz.prog) (S := S) hw 48 x ho b of hx (sgL R) _ hS Tryz.underlying48 rfl (by rw [sgL_length]; kernel_rfl)
 rw [sgL_arr] at this
 exact this
theorem sameView_any (A : Option Addr) (n c : Nat) (L : List SgR) (B : Option Addr) (m d : Nat) (X : List TeR) (A' : Option Addr) (n' c' : Nat) (L' : List SgR) (B' : Option Addr) (m' d' : Nat) (X' : List TeR) (w : World) (h1 : SlG w A n c L) (h2 : SlG w B m d X) (h1' : SlG w A' n' c' L') (h2' : SlG w B' m' d' X') :
  Calls Tryz.prog 12 #[.agg (vwA A n c B m d), .agg (vwA A' n' c' B' m' d')] w fun e w' => e = .returned (.bool (eqVw L X L' X')) ∧ Ext w w' := by
 have hle := h1.le
 have hcap := h1.cap
 have hle' := h1'.le
 have hcap' := h1'.cap
 have HL := Lib.hid h1.len
 have HM := Lib.hid h1'.len
 have hE := ((Ext.refl w).alloc' (.cells (vwA A n c B m d) 25)).alloc' (.cells (vwA A' n' c' B' m' d') 25)
 have HB1 := Lib.hid ((Blk.new w 25 (vwA A n c B m d)).alloc (.cells (vwA A' n' c' B' m' d') 25))
 have HB2 := Lib.hid (show Blk ((w.alloc (.cells (vwA A n c B m d) 25)).alloc (.cells (vwA A' n' c' B' m' d') 25)) (w.heap.size + 1) 25 (vwA A' n' c' B' m' d') from Blk.newAt _ _ _ _ (by simp))
 have HE := Lib.hid hE
 have HS := Lib.hid (h1.ext hE)
 have HS' := Lib.hid (h1'.ext hE)
 have HG := Lib.hid (fun (W : World) (h : Ext w W) => sameTexts_any B m d X B' m' d' X' W (h2.ext h) (h2'.ext h))
 have HV := Lib.hid (show eqVw L X L' X' = (eqG eqSg L L' && eqG eqTe X X') from rfl)
 obtain ⟨w0, hw0⟩ : ∃ w0, (w.alloc (.cells (vwA A n c B m d) 25)).alloc (.cells (vwA A' n' c' B' m' d') 25) = w0 := ⟨_, rfl⟩
 rw [hw0] at HB1 HB2 HE HS HS'
 have HQ := Lib.hid (fun (W : World) (h : Ext w0 W) => (⟨vw_facts (HB1.out.ext h), vw_facts (HB2.out.ext h)⟩ : (W.cell? ⟨w.heap.size, 0, none⟩ = some (.slice A n c) ∧ W.cell? ⟨w.heap.size, 1, none⟩ = some (.slice B m d)) ∧ (W.cell? ⟨w.heap.size + 1, 0, none⟩ = some (.slice A' n' c') ∧ W.cell? ⟨w.heap.size + 1, 1, none⟩ = some (.slice B' m' d'))))
 obtain ⟨⟨p1, p2⟩, q1, q2⟩ := HQ.out _ (Ext.refl _)
 clear h1 h2 h1' h2' hE
 by_cases hn : n = n'
 ·subst hn
  have HCA := Lib.hid (show n = 0 ∨ ((∃ b o, A = some ⟨b, o, none⟩ ∧ w0.rangeAt b o (gcs L) ∧ b < w0.heap.size) ∧ ∃ b o, A' = some ⟨b, o, none⟩ ∧ w0.rangeAt b o (gcs L') ∧ b < w0.heap.size) from by
   rcases Nat.eq_zero_or_pos n with h0 | h0
   ·exact .inl h0
   ·exact .inr ⟨HS.out.at h0, HS'.out.at h0⟩)
  go_enter Tryz.func12, Tryz.ntmps12
  go_wp2_with fail
  clear p1 p2 q1 q2
  go_loopw [5] (fun i wr => ∃ k : Nat, k ≤ n ∧ i = .int .i64 (k : Int) ∧ Hid (∀ j, j < k → eqSg (nthG L j) (nthG L' j) = true) ∧ Hid (Ext w0 wr)) (fun i _ => n - (intOf i).toNat)
  case atStart => exact ⟨0, Nat.zero_le _, rfl, Lib.hid (fun j hj => by omega), Lib.hid (Ext.refl _)⟩
  case round =>
   obtain ⟨k, hk, rfl, HP, HX⟩ := hrel
   obtain ⟨⟨p1, p2⟩, q1, q2⟩ := HQ.out _ HX.out
   by_cases hlt : k < n
   ·rcases HCA.out with h0 | ⟨⟨b, of, rfl, hr, hb⟩, b', of', rfl, hr', hb'⟩
    ·omega
    have hr1 : wr.rangeAt b (of + k * 23) (sgL (nthG L k)) := el_at (rangeAt_keep hr (HX.out.block b hb)) (k := k) (by rw [HL.out]; exact hlt)
    have hr2 : wr.rangeAt b' (of' + k * 23) (sgL (nthG L' k)) := el_at (rangeAt_keep hr' (HX.out.block b' hb')) (k := k) (by rw [HM.out]; exact hlt)
    clear hr hr' hb hb' HCA
    have HOK := Lib.hid (HS.out.nth hlt : (nthG L k).ok w0)
    have HOK' := Lib.hid (HS'.out.nth hlt : (nthG L' k).ok w0)
    have HY := Lib.hid (fun (hx : eqSg (nthG L k) (nthG L' k) = true) => show ∀ j, j < k + 1 → eqSg (nthG L j) (nthG L' j) = true from fun j hj => by
     rcases Nat.lt_or_ge j k with h | h
     ·exact HP.out j h
     ·obtain rfl : j = k := by omega
      exact hx)
    have HN := Lib.hid (fun (hx : eqSg (nthG L k) (nthG L' k) = false) => show eqVw L X L' X' = false by rw [HV.out, eqG_at (by rw [HL.out]; exact hlt) hx, Bool.false_and])
    have i0 : (0 : Int) ≤ (k : Int) := by omega
    have i1 : (k : Int) < (n : Int) := by omega
    obtain ⟨R, hR⟩ : ∃ R, nthG L k = R := ⟨_, rfl⟩
    obtain ⟨Q, hQ⟩ : ∃ Q, nthG L' k = Q := ⟨_, rfl⟩
    rw [hR, hQ] at HY HN
    rw [hR] at hr1 HOK
    rw [hQ] at hr2 HOK'
    clear hR hQ
    have HR1 := Lib.hid (fun (W : World) (h : Ext wr W) => rangeAt_keep hr1 (h.block b (rangeAt_lt hr1 (by intro e; cases e))))
    have HR2 := Lib.hid (fun (W : World) (h : Ext wr W) => rangeAt_keep hr2 (h.block b' (rangeAt_lt hr2 (by intro e; cases e))))
    clear hr1 hr2
    go_wp2_with fail
    clear p1 p2 q1 q2
    refine wp_region_plan (S := fun W => Ext wr W) (by kernel_rfl) (by kernel_rfl) ((Ext.refl wr).drew') ?_
    (refine pr 0 (oi := ⟨some 20, .fieldAddr 25 (.tmp 2) 0, 0, "snapshot.go:72", #[], none⟩) (v := ?_) rfl (by kernel_rfl) (by rfl) ?h ?_; case h => (intro W hSW; go_simp <;> with_reducible rfl))
    try simp only [lays]
    (refine pr 1 (oi := ⟨some 21, .load 22 (.tmp 20), 22, "snapshot.go:72", #[⟨0, .data⟩], none⟩) (v := ?_) rfl (by kernel_rfl) (by rfl) ?h ?_; case h => (intro W hSW; obtain ⟨⟨s1, s2⟩, s3, s4⟩ := HQ.out W (HX.out.trans hSW); go_simp <;> with_reducible rfl))
    try simp only [lays]
    (refine pr 2 (oi := ⟨some 22, .move (.tmp 5), 3, "snapshot.go:72", #[], none⟩) (v := ?_) rfl (by kernel_rfl) (by rfl) ?h ?_; case h => (intro W hSW; go_simp <;> with_reducible rfl))
    try simp only [lays]
    (refine pr 3 (oi := ⟨some 23, .indexAddr 22 (.tmp 21) (.tmp 22), 0, "snapshot.go:72", #[⟨1, .data⟩, ⟨2, .data⟩], none⟩) (v := ?_) rfl (by kernel_rfl) (by rfl) ?h ?_; case h => (intro W hSW; go_simp <;> with_reducible rfl))
    try simp only [lays]
    (refine plan_take (i := 4) (oi := ⟨some 24, .load 48 (.tmp 23), 48, "snapshot.go:72", #[⟨3, .data⟩], none⟩) (v := .agg (sgA R)) rfl (by kernel_rfl) (by kernel_rfl) (fx_read ?hy4) ?_; case hy4 => (refine yields_loadSg ?hw (.tmp 23) rfl b (of + k * 23) ?hx R HR1.out; (case hw => rfl); (case hx => rfl)))
    try simp only [lays]
    (refine pr 5 (oi := ⟨some 25, .fieldAddr 25 (.tmp 3) 0, 0, "snapshot.go:72", #[], none⟩) (v := ?_) rfl (by kernel_rfl) (by rfl) ?h ?_; case h => (intro W hSW; go_simp <;> with_reducible rfl))
    try simp only [lays]
    (refine pr 6 (oi := ⟨some 26, .load 22 (.tmp 25), 22, "snapshot.go:72", #[⟨5, .data⟩], none⟩) (v := ?_) rfl (by kernel_rfl) (by rfl) ?h ?_; case h => (intro W hSW; obtain ⟨⟨s1, s2⟩, s3, s4⟩ := HQ.out W (HX.out.trans hSW); go_simp <;> with_reducible rfl))
    try simp only [lays]
    (refine pr 7 (oi := ⟨some 27, .move (.tmp 5), 3, "snapshot.go:72", #[], none⟩) (v := ?_) rfl (by kernel_rfl) (by rfl) ?h ?_; case h => (intro W hSW; go_simp <;> with_reducible rfl))
    try simp only [lays]
    (refine pr 8 (oi := ⟨some 28, .indexAddr 22 (.tmp 26) (.tmp 27), 0, "snapshot.go:72", #[⟨6, .data⟩, ⟨7, .data⟩], none⟩) (v := ?_) rfl (by kernel_rfl) (by rfl) ?h ?_; case h => (intro W hSW; go_simp <;> with_reducible rfl))
    try simp only [lays]
    (refine plan_take (i := 9) (oi := ⟨some 29, .load 48 (.tmp 28), 48, "snapshot.go:72", #[⟨8, .data⟩], none⟩) (v := .agg (sgA Q)) rfl (by kernel_rfl) (by kernel_rfl) (fx_read ?hy9) ?_; case hy9 => (refine yields_loadSg ?hw (.tmp 28) rfl b' (of' + k * 23) ?hx Q HR2.out; (case hw => rfl); (case hx => rfl)))
    try simp only [lays]
    (refine plan_take (i := 10) (oi := ⟨some 30, .call { callee := .value (.func 27), args := #[.tmp 24, .tmp 29], argTypes := #[48, 48] }, 4, "snapshot.go:72", #[⟨4, .data⟩, ⟨9, .data⟩], none⟩) (v := ?_) rfl (by kernel_rfl) (by kernel_rfl) (fx_call (by rfl) (fun W hSW K hK => ?hy10)) ?_; case hy10 => (go_simp; go_at_call 27; (with_reducible refine (sameSigned_any R Q W (SgR.ok.ext HOK.out (HX.out.trans hSW)) (SgR.ok.ext HOK'.out (HX.out.trans hSW))).mono ?_); rintro e w1 ⟨rfl, he1⟩; exact hK.out _ (hSW.trans he1)))
    try simp only [lays]
    (refine pr 11 (oi := ⟨some 31, .unOp .not 4 (.tmp 30), 4, "snapshot.go:72", #[⟨10, .data⟩], none⟩) (v := ?_) rfl (by kernel_rfl) (by rfl) ?h ?_; case h => (intro W hSW; go_simp <;> with_reducible rfl))
    try simp only [lays]
    refine Plan.done (by kernel_rfl) (fun W hSW => ?_)
    have HX1 := Lib.hid (HX.out.trans hSW)
    clear hSW
    cases hv : eqSg R Q with
    | true =>
     have HY' := Lib.hid (HY.out hv)
     clear hv
     go_wp2_with fail
     go_roundw
     case rel => exact ⟨k + 1, by omega, by go_num, HY', HX1⟩
     case measure => simp [intOf]; omega
    | false =>
     have HN' := Lib.hid (HN.out hv)
     clear hv
     go_wp2_with fail
     go_ret
     exact ⟨by rw [HN'.out]; rfl, HE.out.trans HX1.out⟩
   ·obtain rfl : k = n := by omega
    have HV' := Lib.hid (show eqVw L X L' X' = eqG eqTe X X' by rw [HV.out, eqG_yes (by rw [HL.out, HM.out]) (fun j hj => HP.out j (by rw [HL.out] at hj; exact hj)), Bool.true_and])
    go_wp2_with fail
    refine (HG.out _ (HE.out.trans HX.out)).mono ?_
    rintro e w2 ⟨rfl, he2⟩
    have HX2 := Lib.hid (HE.out.trans (HX.out.trans he2))
    clear he2
    go_wp2_with fail
    go_ret
    exact ⟨by rw [HV'.out]; rfl, HX2.out⟩
 ·have HV' := Lib.hid (show eqVw L X L' X' = false by rw [HV.out, eqG_len (by rw [HL.out, HM.out]; exact hn), Bool.false_and])
  have d1 : ((n : Int) == (n' : Int)) = false := by simp; omega
  have d2 : decide ((n : Int) = (n' : Int)) = false := decide_eq_false (by omega)
  clear hn
  go_enter Tryz.func12, Tryz.ntmps12
  go_wp2_with fail
  go_ret
  exact ⟨by rw [HV'.out]; rfl, HE.out⟩
end Go.Proofs.YtbfepgjeecndiaaGreat

/- The order of bytes; bytes.Compare; the order of signed votes (the program's). -/
namespace Go.Proofs.YtbfepgjeecndiaaGreat
set_option maxRecDepth 100000
set_option maxHeartbeats 8000000
open Go.RowKit
set_option linter.unusedVariables false
set_option linter.unusedSimpArgs false
attribute [local go_sem ↓] Go.wp_at_zero Go.wp_at_succ
def lexB : List UInt8 → List UInt8 → Bool
 | _, [] => false
 | [], _ :: _ => true
 | x :: r, y :: s => if x < y then true else if y < x then false else lexB r s
theorem u8_eq {x y : UInt8} (h1 : ¬ x < y) (h2 : ¬ y < x) : x = y := UInt8.le_antisymm (UInt8.not_lt.1 h2) (UInt8.not_lt.1 h1)
theorem cmp_lex : ∀ (a b : List UInt8), (Lib.compareBytes a b < 0) = (lexB a b = true) ∧ (Lib.compareBytes a b = 0 ↔ a = b) ∧ -1 ≤ Lib.compareBytes a b ∧ Lib.compareBytes a b ≤ 1
 | [], [] => by simp [Lib.compareBytes, lexB]
 | [], _ :: _ => by simp [Lib.compareBytes, lexB]
 | _ :: _, [] => by simp [Lib.compareBytes, lexB]
 | x :: r, y :: s => by
  have ih := cmp_lex r s
  unfold Lib.compareBytes lexB
  by_cases h1 : x < y
  ·have : x ≠ y := fun e => by subst e; exact UInt8.lt_irrefl _ h1
   simp [h1, this]
  ·by_cases h2 : y < x
   ·have : x ≠ y := fun e => by subst e; exact UInt8.lt_irrefl _ h2
    simp [h1, h2, this]
   ·obtain rfl := u8_eq h1 h2
    simpa [h1] using ih
theorem bytesLess_lex : ∀ (a b : List UInt8), Op.bytesLess a b = lexB a b
 | [], [] => rfl
 | _ :: _, [] => rfl
 | [], _ :: _ => rfl
 | x :: r, y :: s => by
  have ih := bytesLess_lex r s
  unfold Op.bytesLess lexB
  rw [ih]
  by_cases h1 : x < y
  ·simp [h1]
  ·by_cases h2 : y < x
   ·have : x ≠ y := fun e => by subst e; exact UInt8.lt_irrefl _ h2
    simp [h1, h2, this]
   ·obtain rfl := u8_eq h1 h2
    simp [h1]
theorem lexB_irrefl (a : List UInt8) : lexB a a = false := by
 induction a with
 | nil => rfl
 | cons x r ih => unfold lexB; simp [UInt8.lt_irrefl, ih]
theorem lexB_trans : ∀ (a b c : List UInt8), lexB a b = true → lexB b c = true → lexB a c = true
 | _, [], _, h, _ => by simp [lexB] at h
 | _, _ :: _, [], _, h => by simp [lexB] at h
 | [], _ :: _, _ :: _, _, _ => rfl
 | x :: r, y :: s, z :: t, h1, h2 => by
  have ih := lexB_trans r s t
  unfold lexB at h1 h2 ⊢
  by_cases a1 : x < y
  ·by_cases a2 : y < z
   ·rw [if_pos (UInt8.lt_trans a1 a2)]
   ·rw [if_neg a2] at h2
    by_cases a3 : z < y
    ·rw [if_pos a3] at h2; cases h2
    ·obtain rfl := u8_eq a2 a3; rw [if_pos a1]
  ·rw [if_neg a1] at h1
   by_cases a2 : y < x
   ·rw [if_pos a2] at h1; cases h1
   ·obtain rfl := u8_eq a1 a2
    rw [if_neg a2] at h1
    by_cases a3 : x < z
    ·rw [if_pos a3]
    ·rw [if_neg a3] at h2 ⊢
     by_cases a4 : z < x
     ·rw [if_pos a4] at h2; cases h2
     ·rw [if_neg a4] at h2 ⊢; exact ih h1 h2
theorem lexB_total : ∀ (a b : List UInt8), lexB a b = false → lexB b a = false → a = b
 | [], [], _, _ => rfl
 | [], _ :: _, h, _ => by simp [lexB] at h
 | _ :: _, [], _, h => by simp [lexB] at h
 | x :: r, y :: s, h1, h2 => by
  have ih := lexB_total r s
  unfold lexB at h1 h2
  by_cases a1 : x < y
  ·rw [if_pos a1] at h1; cases h1
  ·by_cases a2 : y < x
   ·rw [if_pos a2] at h2; cases h2
   ·obtain rfl := u8_eq a1 a2
    rw [if_neg a1, if_neg a1] at h1 h2
    rw [ih h1 h2]
theorem lexB_sto : STO lexB := ⟨lexB_irrefl, lexB_trans, lexB_total⟩
theorem ltVt_sto : STO ltVt := ⟨fun x => lexI_irrefl _, fun x y z => lexI_trans _ _ _, fun x y h1 h2 => vtKey_inj (lexI_total _ _ rfl h1 h2)⟩
abbrev SgV := VtR × List UInt8
def ltSv (a b : SgV) : Bool := if a.1 = b.1 then lexB a.2 b.2 else ltVt a.1 b.1
theorem ltSv_sto : STO ltSv where
 irrefl x := by unfold ltSv; rw [if_pos rfl]; exact lexB_irrefl _
 trans x y z h1 h2 := by
  unfold ltSv at *
  by_cases e1 : x.1 = y.1
  ·rw [if_pos e1] at h1
   by_cases e2 : y.1 = z.1
   ·rw [if_pos e2] at h2; rw [if_pos (e1.trans e2)]; exact lexB_trans _ _ _ h1 h2
   ·rw [if_neg e2] at h2; rw [if_neg (fun e => e2 (e1.symm.trans e)), e1]; exact h2
  ·rw [if_neg e1] at h1
   by_cases e2 : y.1 = z.1
   ·rw [if_neg (fun e => e1 (e.trans e2.symm)), ← e2]; exact h1
   ·rw [if_neg e2] at h2
    have h3 := ltVt_sto.trans _ _ _ h1 h2
    rw [if_neg (fun e => by rw [e, ltVt_sto.irrefl] at h3; cases h3)]; exact h3
 total x y h1 h2 := by
  unfold ltSv at *
  by_cases e1 : x.1 = y.1
  ·rw [if_pos e1] at h1; rw [if_pos e1.symm] at h2
   exact Prod.ext e1 (lexB_total _ _ h1 h2)
  ·rw [if_neg e1] at h1; rw [if_neg (fun e => e1 e.symm)] at h2
   exact absurd (ltVt_sto.total _ _ h1 h2) e1
def SgR.V (S : SgR) : SgV := (S.v, S.sig)
def ltSg (S T : SgR) : Bool := ltSv S.V T.V
theorem ltSg_v {S T : SgR} (h : S.v ≠ T.v) : ltSg S T = ltVt S.v T.v := by unfold ltSg ltSv SgR.V; rw [if_neg h]
theorem ltSg_s {S T : SgR} (h : S.v = T.v) : ltSg S T = decide (Lib.compareBytes S.sig T.sig < 0) := by
 unfold ltSg ltSv SgR.V; rw [if_pos h]
 cases hh : lexB S.sig T.sig with
 | true => exact (decide_eq_true ((cmp_lex _ _).1.symm ▸ hh)).symm
 | false => exact (decide_eq_false (fun e => by rw [(cmp_lex _ _).1, hh] at e; cases e)).symm
/-! bytes.Compare -/
theorem run_bytesOfB {w : World} {A : Option Addr} {n c : Nat} {l : List UInt8} (h : SlB w A n c l) : (Extern.Bytes.bytesOf (.slice A n c)).run Tryz.prog w = .ok (strV l) w := by
 have hl := h.len
 by_cases hn : n = 0
 ·subst hn
  obtain rfl : l = [] := List.length_eq_zero_iff.1 hl
  rcases A with _ | ad
  ·rfl
  ·rfl
 ·obtain ⟨b, o, rfl, hr, _⟩ := h.at (by omega)
  have hx := Lib.run_loadBytesX (P := Tryz.prog) w (l.map fun c => (c.toNat : Int)) ⟨b, o, none⟩ .empty (fun j x hj => by
   rw [List.getElem?_map] at hj
   cases hh : l[j]? with
   | none => rw [hh] at hj; cases hj
   | some u =>
    rw [hh] at hj
    obtain rfl := Option.some.inj hj
    rw [Addr.add_mid]
    exact hr j _ (by unfold bcs; rw [List.getElem?_map, hh]; rfl))
  rw [List.length_map, hl] at hx
  have e1 : Lib.bytesOf (l.map fun c => (c.toNat : Int)) = l := by
   unfold Lib.bytesOf
   rw [List.map_map]
   conv => rhs; rw [← List.map_id l]
   apply List.map_congr_left
   intro u _
   simp
  rw [e1] at hx
  have he : (⟨ByteArray.empty.data ++ l.toArray⟩ : ByteArray) = strV l := by
   apply ByteArray.ext
   show (#[] : Array UInt8) ++ l.toArray = l.toArray
   simp
  rw [he] at hx
  exact hx
theorem run_compareB {w : World} {A B : Option Addr} {n c m d : Nat} {p q : List UInt8} (h : SlB w A n c p) (k : SlB w B m d q) : (Extern.BytealgCompare.compare #[.slice A n c, .slice B m d]).run Tryz.prog w = .ok (.int .i64 (Lib.compareBytes p q)) w := by
 change Sem.run Tryz.prog (do pure (goInt (Extern.BytealgCompare.cmp (← Extern.Bytes.bytesOf (.slice A n c)) (← Extern.Bytes.bytesOf (.slice B m d))))) w = _
 simp only [Sem.run_bind, Sem.run_pure, run_bytesOfB h, run_bytesOfB k, Result.andThen]
 rw [Lib.cmp_eq]
 rfl
theorem bCompare_any (A : Option Addr) (n c : Nat) (p : List UInt8) (B : Option Addr) (m d : Nat) (q : List UInt8) (w : World) (h : SlB w A n c p) (k : SlB w B m d q) :
  Calls Tryz.prog 63 #[.slice A n c, .slice B m d] w fun e w' => e = .returned (.int .i64 (Lib.compareBytes p q)) ∧ w = w' := by
 have hr := run_compareB h k
 clear h k
 go_enter Tryz.func63, Tryz.ntmps63
 go_wp2
 rw [run_callFunc_extern Tryz.func93 (by kernel_rfl) (by kernel_rfl) (by kernel_rfl) (e := Extern.BytealgCompare.compare) (by kernel_rfl), hr]
 simp only [Result.andThen]
 rw [Oper.upon_value]
 go_wp2
 go_ret
 exact ⟨rfl, rfl⟩
/-! the order of signed votes -/
theorem sg_vote {w : World} {g : Nat} {t : TypeId} {S : SgR} (h : Blk w g t (sgA S)) : w.rangeAt g 0 (vtL S.v) := rangeAt_take (k := 22) (rangeAt_of_blk h)
theorem sgLess_any (S T : SgR) (w : World) (hS : S.ok w) (hT : T.ok w) : Calls Tryz.prog 73 #[.agg (sgA S), .agg (sgA T)] w fun e w' => e = .returned (.bool (ltSg S T)) ∧ Ext w w' := by
 have hE := ((Ext.refl w).alloc' (.cells (sgA S) 48)).alloc' (.cells (sgA T) 48)
 have HB1 := Lib.hid ((Blk.new w 48 (sgA S)).alloc (.cells (sgA T) 48))
 have HB2 := Lib.hid (show Blk ((w.alloc (.cells (sgA S) 48)).alloc (.cells (sgA T) 48)) (w.heap.size + 1) 48 (sgA T) from Blk.newAt _ _ _ _ (by simp))
 have HE := Lib.hid hE
 have HS := Lib.hid (hS.ext hE)
 have HT := Lib.hid (hT.ext hE)
 obtain ⟨W0, hW0⟩ : ∃ W0, (w.alloc (.cells (sgA S) 48)).alloc (.cells (sgA T) 48) = W0 := ⟨_, rfl⟩
 rw [hW0] at HB1 HB2 HE HS HT
 have r1 := sg_vote HB1.out
 have r2 := sg_vote HB2.out
 have hq : ∀ W, (binOp .neq 46 (.agg (vtA S.v)) (.agg (vtA T.v))).run Tryz.prog W = .ok (.bool (!decide (S.v = T.v))) W := fun W => by
  rw [run_neq_struct, eqIn_Vt S.v T.v HS.out.v HT.out.v W]; rfl
 have hqi := fun W => eqIn_Vt S.v T.v HS.out.v HT.out.v W
 have HL := Lib.hid (fun (W : World) => vtLess_any S.v T.v W)
 clear hE hS hT
 by_cases hv : S.v = T.v
 ·have HV := Lib.hid (ltSg_s hv)
  rw [decide_eq_true hv] at hq hqi
  rw [Bool.not_true] at hq
  have c1 : W0.cell? ⟨w.heap.size, 22, none⟩ = some (.slice S.A S.n S.c) := HB1.out.cell 22
  have c2 : W0.cell? ⟨w.heap.size + 1, 22, none⟩ = some (.slice T.A T.n T.c) := HB2.out.cell 22
  clear hv
  go_enter Tryz.func73, Tryz.ntmps73
  go_wp2_with (first | (with_reducible refine wpList_loadVt rfl (.tmp 5) rfl w.heap.size 0 rfl S.v r1 ?_) | (with_reducible refine wpList_loadVt rfl (.tmp 7) rfl (w.heap.size + 1) 0 rfl T.v r2 ?_))
  refine (bCompare_any _ _ _ _ _ _ _ _ W0 HS.out.sig HT.out.sig).mono ?_
  rintro e w1 ⟨rfl, rfl⟩
  go_wp2_with fail
  go_ret
  exact ⟨by rw [HV.out]; rfl, HE.out⟩
 ·have HV := Lib.hid (ltSg_v hv)
  rw [decide_eq_false hv] at hq hqi
  rw [Bool.not_false] at hq
  clear hv
  go_enter Tryz.func73, Tryz.ntmps73
  go_wp2_with (first | (with_reducible refine wpList_loadVt rfl (.tmp 5) rfl w.heap.size 0 rfl S.v r1 ?_) | (with_reducible refine wpList_loadVt rfl (.tmp 7) rfl (w.heap.size + 1) 0 rfl T.v r2 ?_) | (with_reducible refine wpList_loadVt rfl (.tmp 10) rfl w.heap.size 0 rfl S.v r1 ?_) | (with_reducible refine wpList_loadVt rfl (.tmp 12) rfl (w.heap.size + 1) 0 rfl T.v r2 ?_))
  refine (HL.out W0).mono ?_
  rintro e w1 ⟨rfl, he1⟩
  have HX1 := Lib.hid (HE.out.trans he1)
  clear he1
  go_wp2_with fail
  go_ret
  exact ⟨by rw [HV.out]; rfl, HX1.out⟩
end Go.Proofs.YtbfepgjeecndiaaGreat
