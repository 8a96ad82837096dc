/- Views in ascending order (snapshot.ordered). -/
import Derived.Test.YtbfepgjeecndiaaGreatJ15
namespace Go.Proofs.YtbfepgjeecndiaaGreat
set_option maxRecDepth 100000
set_option maxHeartbeats 8000000
open Go.RowKit
set_option linter.unusedVariables false
set_option linter.unusedSimpArgs false
attribute [local go_sem ↓] Go.wp_at_zero Go.wp_at_succ
def ascG {α : Type} [RowT α] (f : α → α → Bool) (L : List α) : Bool := decide (∀ k, k < L.length - 1 → f (nthG L k) (nthG L (k + 1)) = true)
theorem ascG_no {α : Type} [RowT α] {f : α → α → Bool} {L : List α} {k : Nat} (hk : k + 1 < L.length) (h : f (nthG L k) (nthG L (k + 1)) = false) : ascG f L = false := decide_eq_false (fun hh => by rw [hh k (by omega)] at h; cases h)
theorem ascG_yes {α : Type} [RowT α] {f : α → α → Bool} {L : List α} (h : ∀ k, k + 1 < L.length → f (nthG L k) (nthG L (k + 1)) = true) : ascG f L = true := decide_eq_true (fun k hk => h k (by omega))
theorem ascG_of {α : Type} [RowT α] {f : α → α → Bool} {L : List α} (h : ascG f L = true) {k : Nat} (hk : k + 1 < L.length) : f (nthG L k) (nthG L (k + 1)) = true := of_decide_eq_true h k (by omega)
def ltTe (x y : TeR) : Bool := lexB x.l y.l
def ordV (L : List SgR) (X : List TeR) : Bool := ascG ltSg L && ascG ltTe X
theorem te_at {w : World} {b o k : Nat} {X : List TeR} (h : w.rangeAt b o (gcs X)) (hk : k < X.length) : w.cell? ⟨b, o + k, none⟩ = some (.slice (nthG X k).A (nthG X k).n (nthG X k).c) := by
 have := el_at h hk 0 _ rfl
 rwa [show RowT.sz TeR = 1 from rfl, Nat.mul_one, Nat.add_zero] at this
theorem lex_le (p q : List UInt8) : decide (0 ≤ Lib.compareBytes p q) = !lexB p q := by
 have h := (cmp_lex p q).1
 cases hh : lexB p q with
 | true => rw [hh] at h; have := h.mpr rfl; exact decide_eq_false (by omega)
 | false =>
  refine decide_eq_true ?_
  rcases Int.lt_or_le (Lib.compareBytes p q) 0 with hc | hc
  ·rw [h, hh] at hc; cases hc
  ·exact hc
theorem ordered_any (A : Option Addr) (n c : Nat) (L : List SgR) (B : Option Addr) (m d : Nat) (X : List TeR) (w : World) (hS : SlG w A n c L) (hX : SlG w B m d X) :
  Calls Tryz.prog 40 #[.agg (vwA A n c B m d)] w fun e w' => e = .returned (.bool (ordV L X)) ∧ Ext w w' := by
 have hcap := hS.cap
 have hle := hS.le
 have hcap2 := hX.cap
 have hle2 := hX.le
 have hE := (Ext.refl w).alloc' (.cells (vwA A n c B m d) 25)
 have HB := Lib.hid (Blk.new w 25 (vwA A n c B m d))
 have HE := Lib.hid hE
 have HS := Lib.hid (hS.ext hE)
 have HX := Lib.hid (hX.ext hE)
 have HL := Lib.hid hS.len
 have HM := Lib.hid hX.len
 obtain ⟨W0, hW0⟩ : ∃ W0, w.alloc (.cells (vwA A n c B m d) 25) = W0 := ⟨_, rfl⟩
 rw [hW0] at HB HE HS HX
 have HC := Lib.hid (fun (W : World) (h : Ext W0 W) => vw_facts (HB.out.ext h))
 have HSA := Lib.hid (fun (h : 0 < n) => HS.out.at h)
 have HXA := Lib.hid (fun (h : 0 < m) => HX.out.at h)
 clear hS hX hE
 obtain ⟨c0, c1⟩ := HC.out W0 (Ext.refl _)
 go_enter Tryz.func40, Tryz.ntmps40
 go_wp2_with fail
 clear c0 c1
 go_loopw [3] (fun i wr => ∃ k : Nat, k ≤ n ∧ i = .int .i64 ((k : Int) + 1) ∧ Hid (∀ j, j < k → j + 1 < n → ltSg (nthG L j) (nthG L (j + 1)) = true) ∧ Hid (Ext W0 wr)) (fun i _ => n - (intOf i - 1).toNat)
 case atStart => exact ⟨0, Nat.zero_le _, rfl, Lib.hid (fun j hj => by omega), Lib.hid (Ext.refl _)⟩
 case round =>
  obtain ⟨k, hk, rfl, HP, HZ⟩ := hrel
  obtain ⟨c0, c1⟩ := HC.out wr HZ.out
  by_cases hlt : k + 1 < n
  ·obtain ⟨b, o, rfl, hr, hb⟩ := HSA.out (by omega)
   have HR := Lib.hid (fun (W : World) (h : Ext wr W) => (⟨el_at (rangeAt_keep hr ((HZ.out.trans h).block b hb)) (k := k) (by rw [HL.out]; omega), el_at (rangeAt_keep hr ((HZ.out.trans h).block b hb)) (k := k + 1) (by rw [HL.out]; exact hlt)⟩ : W.rangeAt b (o + k * 23) (sgL (nthG L k)) ∧ W.rangeAt b (o + (k + 1) * 23) (sgL (nthG L (k + 1)))))
   have HC2 := Lib.hid (fun (W : World) (h : Ext wr W) => show W.cell? ⟨w.heap.size, 0, none⟩ = some (.slice (some ⟨b, o, none⟩) n c) from (HC.out W (HZ.out.trans h)).1)
   have HK1 := Lib.hid (fun (W : World) (h : Ext wr W) => show (nthG L k).ok W from (HS.out.ext (HZ.out.trans h)).nth (k := k) (by omega))
   have HK2 := Lib.hid (fun (W : World) (h : Ext wr W) => show (nthG L (k + 1)).ok W from (HS.out.ext (HZ.out.trans h)).nth (k := k + 1) hlt)
   have HY := Lib.hid (fun (hx : ltSg (nthG L k) (nthG L (k + 1)) = true) => show ∀ j, j < k + 1 → j + 1 < n → ltSg (nthG L j) (nthG L (j + 1)) = true from fun j hj hjn => by
    rcases Nat.lt_or_ge j k with h | h
    ·exact HP.out j h hjn
    ·obtain rfl : j = k := by omega
     exact hx)
   have HN := Lib.hid (fun (hx : ltSg (nthG L k) (nthG L (k + 1)) = false) => show ordV L X = false by unfold ordV; rw [ascG_no (by rw [HL.out]; exact hlt) hx]; rfl)
   obtain ⟨R, hR⟩ : ∃ R, nthG L k = R := ⟨_, rfl⟩
   obtain ⟨Q, hQ⟩ : ∃ Q, nthG L (k + 1) = Q := ⟨_, rfl⟩
   rw [hR, hQ] at HY HN HR
   rw [hR] at HK1
   rw [hQ] at HK2
   clear hR hQ hr hb
   have i0 : (0 : Int) ≤ (k : Int) := by omega
   have i1 : (k : Int) < (n : Int) := by omega
   have i2 : (k : Int) + 1 < (n : Int) := by omega
   have i3 : (0 : Int) ≤ (k : Int) + 1 := by omega
   have i4 : ((k : Int) + 1).toNat = k + 1 := by omega
   have i5 : ((k : Int)).toNat = k := by omega
   have i6 : IntKind.i64.wrap ((k : Int) + 1 - 1) = (k : Int) := by rw [IntKind.wrap_i64]; omega
   have i7 : IntKind.i64.wrap (k : Int) = (k : Int) := by rw [IntKind.wrap_i64]; omega
   have i8 : (k : Int) + 1 - 1 = (k : Int) := by omega
   go_wp2_with fail
   clear c0 c1
   refine wp_region_plan (S := fun W => Ext wr W) (by kernel_rfl) (by kernel_rfl) ((Ext.refl wr).drew') ?_
   (refine pr 0 (oi := ⟨some 12, .fieldAddr 25 (.tmp 1) 0, 0, "snapshot.go:119", #[], none⟩) (v := ?_) rfl (by kernel_rfl) (by rfl) ?h ?_; case h => (intro W hSW; go_simp <;> with_reducible rfl))
   try simp only [lays]
   (refine pr 1 (oi := ⟨some 13, .load 22 (.tmp 12), 22, "snapshot.go:119", #[⟨0, .data⟩], none⟩) (v := ?_) rfl (by kernel_rfl) (by rfl) ?h ?_; case h => (intro W hSW; have c0 := HC2.out W hSW; go_simp <;> with_reducible rfl))
   try simp only [lays]
   (refine pr 2 (oi := ⟨some 14, .move (.tmp 3), 3, "snapshot.go:119", #[], none⟩) (v := ?_) rfl (by kernel_rfl) (by rfl) ?h ?_; case h => (intro W hSW; go_simp <;> with_reducible rfl))
   try simp only [lays]
   (refine pr 3 (oi := ⟨some 15, .binOp .sub 3 (.tmp 14) (.const (.int .i64 1)) 3, 3, "snapshot.go:119", #[⟨2, .data⟩], none⟩) (v := ?_) rfl (by kernel_rfl) (by rfl) ?h ?_; case h => (intro W hSW; go_simp <;> with_reducible rfl))
   try simp only [lays]
   (refine pr 4 (oi := ⟨some 16, .indexAddr 22 (.tmp 13) (.tmp 15), 0, "snapshot.go:119", #[⟨1, .data⟩, ⟨3, .data⟩], none⟩) (v := ?_) rfl (by kernel_rfl) (by rfl) ?h ?_; case h => (intro W hSW; go_simp <;> with_reducible rfl))
   try simp only [lays]
   (refine plan_take (i := 5) (oi := ⟨some 17, .load 48 (.tmp 16), 48, "snapshot.go:119", #[⟨4, .data⟩], none⟩) (v := .agg (sgA R)) rfl (by kernel_rfl) (by kernel_rfl) (fx_read ?hy5) ?_; case hy5 => (refine yields_loadSg ?hw (.tmp 16) rfl b (o + k * 23) ?hx R (fun W h => (HR.out W h).1); (case hw => rfl); (case hx => rfl)))
   try simp only [lays]
   (refine pr 6 (oi := ⟨some 18, .fieldAddr 25 (.tmp 1) 0, 0, "snapshot.go:119", #[], none⟩) (v := ?_) rfl (by kernel_rfl) (by rfl) ?h ?_; case h => (intro W hSW; go_simp <;> with_reducible rfl))
   try simp only [lays]
   (refine pr 7 (oi := ⟨some 19, .load 22 (.tmp 18), 22, "snapshot.go:119", #[⟨6, .data⟩], none⟩) (v := ?_) rfl (by kernel_rfl) (by rfl) ?h ?_; case h => (intro W hSW; have c0 := HC2.out W hSW; go_simp <;> with_reducible rfl))
   try simp only [lays]
   (refine pr 8 (oi := ⟨some 20, .move (.tmp 3), 3, "snapshot.go:119", #[], none⟩) (v := ?_) rfl (by kernel_rfl) (by rfl) ?h ?_; case h => (intro W hSW; go_simp <;> with_reducible rfl))
   try simp only [lays]
   (refine pr 9 (oi := ⟨some 21, .indexAddr 22 (.tmp 19) (.tmp 20), 0, "snapshot.go:119", #[⟨7, .data⟩, ⟨8, .data⟩], none⟩) (v := ?_) rfl (by kernel_rfl) (by rfl) ?h ?_; case h => (intro W hSW; go_simp <;> with_reducible rfl))
   try simp only [lays]
   (refine plan_take (i := 10) (oi := ⟨some 22, .load 48 (.tmp 21), 48, "snapshot.go:119", #[⟨9, .data⟩], none⟩) (v := .agg (sgA Q)) rfl (by kernel_rfl) (by kernel_rfl) (fx_read ?hy10) ?_; case hy10 => (refine yields_loadSg ?hw (.tmp 21) rfl b (o + (k + 1) * 23) ?hx Q (fun W h => (HR.out W h).2); (case hw => rfl); (case hx => rfl)))
   try simp only [lays]
   (refine plan_take (i := 11) (oi := ⟨some 23, .call { callee := .value (.func 73), args := #[.tmp 17, .tmp 22], argTypes := #[48, 48] }, 4, "snapshot.go:119", #[⟨5, .data⟩, ⟨10, .data⟩], none⟩) (v := ?_) rfl (by kernel_rfl) (by kernel_rfl) (fx_call (by rfl) (fun W hSW K hK => ?hy11)) ?_; case hy11 => (go_simp; go_at_call 73; (with_reducible refine (sgLess_any R Q W (HK1.out W hSW) (HK2.out W hSW)).mono ?_); rintro e w1 ⟨rfl, he1⟩; exact hK.out _ (hSW.trans he1)))
   try simp only [lays]
   (refine pr 12 (oi := ⟨some 24, .unOp .not 4 (.tmp 23), 4, "snapshot.go:119", #[⟨11, .data⟩], none⟩) (v := ?_) rfl (by kernel_rfl) (by rfl) ?h ?_; case h => (intro W hSW; go_simp <;> with_reducible rfl))
   try simp only [lays]
   refine Plan.done (by kernel_rfl) (fun W hSW => ?_)
   have HZ2 := Lib.hid (HZ.out.trans hSW)
   clear hSW i6 i7 i8 i4 i5
   cases hv : ltSg R Q with
   | true =>
    have HY' := Lib.hid (HY.out hv)
    clear hv
    go_wp2_with fail
    go_roundw
    case rel => exact ⟨k + 1, by omega, by go_num, HY', HZ2⟩
    case measure => simp [intOf]; omega
   | false =>
    have HN' := Lib.hid (HN.out hv)
    clear hv
    go_wp2_with fail
    go_ret
    exact ⟨by rw [HN'.out]; rfl, HE.out.trans HZ2.out⟩
  ·have HV := Lib.hid (show ordV L X = ascG ltTe X by unfold ordV; rw [ascG_yes (f := ltSg) (L := L) (fun j hj => HP.out j (by rw [HL.out] at hj; omega) (by rw [HL.out] at hj; exact hj)), Bool.true_and])
   have i2 : ¬ (k : Int) + 1 < (n : Int) := by omega
   clear HP
   have HZ1 := Lib.hid HZ.out
   clear HZ
   go_wp2_with fail
   clear c0 c1
   go_loopw [4] (fun i wr => ∃ k : Nat, k ≤ m ∧ i = .int .i64 ((k : Int) + 1) ∧ Hid (∀ j, j < k → j + 1 < m → ltTe (nthG X j) (nthG X (j + 1)) = true) ∧ Hid (Ext W0 wr)) (fun i _ => m - (intOf i - 1).toNat)
   case atStart => exact ⟨0, Nat.zero_le _, rfl, Lib.hid (fun j hj => by omega), HZ1⟩
   case round =>
    obtain ⟨k2, hk2, rfl, HP, HZ⟩ := hrel
    obtain ⟨c0, c1⟩ := HC.out wr HZ.out
    by_cases hlt : k2 + 1 < m
    ·obtain ⟨b, o, rfl, hr, hb⟩ := HXA.out (by omega)
     have HR := Lib.hid (fun (W : World) (h : Ext wr W) => (And.intro (te_at (rangeAt_keep hr ((HZ.out.trans h).block b hb)) (k := k2) (by rw [HM.out]; omega)) (te_at (rangeAt_keep hr ((HZ.out.trans h).block b hb)) (k := k2 + 1) (by rw [HM.out]; exact hlt))))
     have HC2 := Lib.hid (fun (W : World) (h : Ext wr W) => show W.cell? ⟨w.heap.size, 1, none⟩ = some (.slice (some ⟨b, o, none⟩) m d) from (HC.out W (HZ.out.trans h)).2)
     have HK1 := Lib.hid (fun (W : World) (h : Ext wr W) => show SlB W (nthG X k2).A (nthG X k2).n (nthG X k2).c (nthG X k2).l from (HX.out.ext (HZ.out.trans h)).nth (k := k2) (by omega))
     have HK2 := Lib.hid (fun (W : World) (h : Ext wr W) => show SlB W (nthG X (k2 + 1)).A (nthG X (k2 + 1)).n (nthG X (k2 + 1)).c (nthG X (k2 + 1)).l from (HX.out.ext (HZ.out.trans h)).nth (k := k2 + 1) hlt)
     have HY := Lib.hid (fun (hx : ltTe (nthG X k2) (nthG X (k2 + 1)) = true) => show ∀ j, j < k2 + 1 → j + 1 < m → ltTe (nthG X j) (nthG X (j + 1)) = true from fun j hj hjn => by
      rcases Nat.lt_or_ge j k2 with h | h
      ·exact HP.out j h hjn
      ·obtain rfl : j = k2 := by omega
       exact hx)
     have HN := Lib.hid (fun (hx : ltTe (nthG X k2) (nthG X (k2 + 1)) = false) => show ordV L X = false by rw [HV.out, ascG_no (by rw [HM.out]; exact hlt) hx])
     obtain ⟨R, hR⟩ : ∃ R, nthG X k2 = R := ⟨_, rfl⟩
     obtain ⟨Q, hQ⟩ : ∃ Q, nthG X (k2 + 1) = Q := ⟨_, rfl⟩
     rw [hR, hQ] at HY HN HR
     rw [hR] at HK1
     rw [hQ] at HK2
     clear hR hQ hr hb
     obtain ⟨RA, Rn, Rc, Rl⟩ := R
     obtain ⟨QA, Qn, Qc, Ql⟩ := Q
     have hlex := lex_le Rl Ql
     have i0 : (0 : Int) ≤ (k2 : Int) := by omega
     have i1 : (k2 : Int) < (m : Int) := by omega
     have i2 : (k2 : Int) + 1 < (m : Int) := by omega
     have i3 : (0 : Int) ≤ (k2 : Int) + 1 := by omega
     have i4 : ((k2 : Int) + 1).toNat = k2 + 1 := by omega
     have i5 : ((k2 : Int)).toNat = k2 := by omega
     have i6 : IntKind.i64.wrap ((k2 : Int) + 1 - 1) = (k2 : Int) := by rw [IntKind.wrap_i64]; omega
     have i7 : IntKind.i64.wrap (k2 : Int) = (k2 : Int) := by rw [IntKind.wrap_i64]; omega
     have i8 : (k2 : Int) + 1 - 1 = (k2 : Int) := by omega
     go_wp2_with fail
     clear c0 c1
     refine wp_region_plan (S := fun W => Ext wr W) (by kernel_rfl) (by kernel_rfl) ((Ext.refl wr).drew') ?_
     (refine pr 0 (oi := ⟨some 32, .fieldAddr 25 (.tmp 1) 1, 0, "snapshot.go:124", #[], none⟩) (v := ?_) rfl (by kernel_rfl) (by rfl) ?h ?_; case h => (intro W hSW; go_simp <;> with_reducible rfl))
     try simp only [lays]
     (refine pr 1 (oi := ⟨some 33, .load 23 (.tmp 32), 23, "snapshot.go:124", #[⟨0, .data⟩], none⟩) (v := ?_) rfl (by kernel_rfl) (by rfl) ?h ?_; case h => (intro W hSW; have c1 := HC2.out W hSW; obtain ⟨x0, x1⟩ := HR.out W hSW; go_simp <;> with_reducible rfl))
     try simp only [lays]
     (refine pr 2 (oi := ⟨some 34, .move (.tmp 4), 3, "snapshot.go:124", #[], none⟩) (v := ?_) rfl (by kernel_rfl) (by rfl) ?h ?_; case h => (intro W hSW; go_simp <;> with_reducible rfl))
     try simp only [lays]
     (refine pr 3 (oi := ⟨some 35, .binOp .sub 3 (.tmp 34) (.const (.int .i64 1)) 3, 3, "snapshot.go:124", #[⟨2, .data⟩], none⟩) (v := ?_) rfl (by kernel_rfl) (by rfl) ?h ?_; case h => (intro W hSW; go_simp <;> with_reducible rfl))
     try simp only [lays]
     (refine pr 4 (oi := ⟨some 36, .indexAddr 23 (.tmp 33) (.tmp 35), 0, "snapshot.go:124", #[⟨1, .data⟩, ⟨3, .data⟩], none⟩) (v := ?_) rfl (by kernel_rfl) (by rfl) ?h ?_; case h => (intro W hSW; go_simp <;> with_reducible rfl))
     try simp only [lays]
     (refine pr 5 (oi := ⟨some 37, .load 28 (.tmp 36), 28, "snapshot.go:124", #[⟨4, .data⟩], none⟩) (v := ?_) rfl (by kernel_rfl) (by rfl) ?h ?_; case h => (intro W hSW; have c1 := HC2.out W hSW; obtain ⟨x0, x1⟩ := HR.out W hSW; go_simp <;> with_reducible rfl))
     try simp only [lays]
     (refine pr 6 (oi := ⟨some 38, .fieldAddr 25 (.tmp 1) 1, 0, "snapshot.go:124", #[], none⟩) (v := ?_) rfl (by kernel_rfl) (by rfl) ?h ?_; case h => (intro W hSW; go_simp <;> with_reducible rfl))
     try simp only [lays]
     (refine pr 7 (oi := ⟨some 39, .load 23 (.tmp 38), 23, "snapshot.go:124", #[⟨6, .data⟩], none⟩) (v := ?_) rfl (by kernel_rfl) (by rfl) ?h ?_; case h => (intro W hSW; have c1 := HC2.out W hSW; obtain ⟨x0, x1⟩ := HR.out W hSW; go_simp <;> with_reducible rfl))
     try simp only [lays]
     (refine pr 8 (oi := ⟨some 40, .move (.tmp 4), 3, "snapshot.go:124", #[], none⟩) (v := ?_) rfl (by kernel_rfl) (by rfl) ?h ?_; case h => (intro W hSW; go_simp <;> with_reducible rfl))
     try simp only [lays]
     (refine pr 9 (oi := ⟨some 41, .indexAddr 23 (.tmp 39) (.tmp 40), 0, "snapshot.go:124", #[⟨7, .data⟩, ⟨8, .data⟩], none⟩) (v := ?_) rfl (by kernel_rfl) (by rfl) ?h ?_; case h => (intro W hSW; go_simp <;> with_reducible rfl))
     try simp only [lays]
     (refine pr 10 (oi := ⟨some 42, .load 28 (.tmp 41), 28, "snapshot.go:124", #[⟨9, .data⟩], none⟩) (v := ?_) rfl (by kernel_rfl) (by rfl) ?h ?_; case h => (intro W hSW; have c1 := HC2.out W hSW; obtain ⟨x0, x1⟩ := HR.out W hSW; go_simp <;> with_reducible rfl))
     try simp only [lays]
     (refine plan_take (i := 11) (oi := ⟨some 43, .call { callee := .value (.func 63), args := #[.tmp 37, .tmp 42], argTypes := #[28, 28] }, 3, "snapshot.go:124", #[⟨5, .data⟩, ⟨10, .data⟩], none⟩) (v := ?_) rfl (by kernel_rfl) (by kernel_rfl) (fx_call (by rfl) (fun W hSW K hK => ?hy11)) ?_; case hy11 => (go_simp; go_at_call 63; (with_reducible refine (bCompare_any RA Rn Rc Rl QA Qn Qc Ql W (HK1.out W hSW) (HK2.out W hSW)).mono ?_); rintro e w1 ⟨rfl, rfl⟩; exact hK.out _ (hSW)))
     try simp only [lays]
     (refine pr 12 (oi := ⟨some 44, .binOp .geq 3 (.tmp 43) (.const (.int .i64 0)) 3, 4, "snapshot.go:124", #[⟨11, .data⟩], none⟩) (v := ?_) rfl (by kernel_rfl) (by rfl) ?h ?_; case h => (intro W hSW; go_simp <;> with_reducible rfl))
     try simp only [lays]
     refine Plan.done (by kernel_rfl) (fun W hSW => ?_)
     have HZ2 := Lib.hid (HZ.out.trans hSW)
     clear hSW i6 i7 i8 i4 i5
     cases hv : lexB Rl Ql with
     | true =>
      have HY' := Lib.hid (HY.out hv)
      rw [hv] at hlex
      clear hv
      go_wp2_with fail
      go_roundw
      case rel => exact ⟨k2 + 1, by omega, by go_num, HY', HZ2⟩
      case measure => simp [intOf]; omega
     | false =>
      have HN' := Lib.hid (HN.out hv)
      rw [hv] at hlex
      clear hv
      go_wp2_with fail
      go_ret
      exact ⟨by rw [HN'.out]; rfl, HE.out.trans HZ2.out⟩
    ·have HV2 := Lib.hid (show ordV L X = true by rw [HV.out]; exact ascG_yes (f := ltTe) (L := X) (fun j hj => HP.out j (by rw [HM.out] at hj; omega) (by rw [HM.out] at hj; exact hj)))
     have i2 : ¬ (k2 : Int) + 1 < (m : Int) := by omega
     have HZ2 := Lib.hid (HE.out.trans HZ.out)
     go_wp2_with fail
     go_ret
     exact ⟨by rw [HV2.out]; rfl, HZ2.out⟩
end Go.Proofs.YtbfepgjeecndiaaGreat
