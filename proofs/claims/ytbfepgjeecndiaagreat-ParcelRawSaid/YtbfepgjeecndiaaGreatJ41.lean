/- Repetitions of texts struck (slices.CompactFunc). -/
import Derived.Test.YtbfepgjeecndiaaGreatJ37
namespace Go.Proofs.YtbfepgjeecndiaaGreat
set_option maxRecDepth 100000
set_option maxHeartbeats 8000000
open Go.RowKit
set_option linter.unusedVariables false
set_option linter.unusedSimpArgs false
set_option linter.unusedSectionVars false
attribute [local go_sem ↓] Go.wp_at_zero Go.wp_at_succ
theorem RowTe.load {w0 w w' : World} {base n c : Nat} {A : Option Addr} {d : Array TeR} (h : RowS w0 w base 28 A n c d) {g : Nat} (hA : A = some ⟨g, 0, none⟩) {i : Nat} (hi : i < n) {R : TeR} (hR : d[i]! = R) (he : Ext w w') : w'.cell? ⟨g, i, none⟩ = some (.slice R.A R.n R.c) := by
 have := (RowS.ext h he).cell hA hi
 rw [hR] at this
 have := this 0 _ rfl
 rwa [show RowT.sz TeR = 1 from rfl, Nat.mul_one, Nat.add_zero] at this
theorem te_sz : RowT.sz TeR = 1 := rfl
section
variable {w0 w : World} {base n c : Nat} {A : Option Addr} {d : Array TeR}
theorem RowTe.set (h : RowS w0 w base 28 A n c d) {g : Nat} (hA : A = some ⟨g, 0, none⟩) {i : Nat} (hi : i < n) (x : TeR) (hx : RowB.ow w base x) : RowS w0 (w.setCell ⟨g, i, none⟩ (.slice x.A x.n x.c)) base 28 A n c (d.setIfInBounds i x) := by
 have := h.set hA hi x hx
 rw [te_sz, Nat.mul_one] at this
 exact this
theorem RowTe.there (h : RowS w0 w base 28 A n c d) {g : Nat} (hA : A = some ⟨g, 0, none⟩) {i : Nat} (hi : i < n) : w.cell? ⟨g, i, none⟩ = some (.slice (d[i]!).A (d[i]!).n (d[i]!).c) ∧ w.frozen? ⟨g, i, none⟩ = false := by
 refine ⟨RowTe.load h hA hi rfl (Ext.refl w), ?_⟩
 have := (h.there hA hi 0 (by decide)).2
 rwa [te_sz, Nat.mul_one, Nat.add_zero] at this
theorem RowTe.clearOk (h : RowS w0 w base 28 A n c d) {g : Nat} (hA : A = some ⟨g, 0, none⟩) {k : Nat} (hk : k ≤ n) : (∀ j, j < (n - k) * 1 → (w.cell? ⟨g, k + j, none⟩).isSome = true) ∧ ∀ j, j < (n - k) * 1 → w.frozen? ⟨g, k + j, none⟩ = false := by
 have := h.clearOk hA hk
 rw [te_sz, Nat.mul_one k] at this
 exact this
theorem RowTe.cutClear (h : RowS w0 w base 28 A n c d) {g : Nat} (hA : A = some ⟨g, 0, none⟩) {k : Nat} (hk : k ≤ n) (ys : List Value) : RowS w0 (w.setCells g k ys) base 28 A k c (d.toList.take k).toArray := by
 have := h.cutClear hA hk ys
 rw [te_sz, Nat.mul_one] at this
 exact this
end
theorem RowTe.eqv {w0 w : World} {base n c : Nat} {A : Option Addr} {d : Array TeR} (h : RowS w0 w base 28 A n c d) {i j : Nat} (hi : i < n) (hj : j < n) {R T : TeR} (hR : d[i]! = R) (hT : d[j]! = T) (vx vy : Value) (hx : Value.slice R.A R.n R.c = vx) (hy : Value.slice T.A T.n T.c = vy) (b : Bool) (hb : decide (TeR.l d[i]! = TeR.l d[j]!) = b) :
  Hid (∀ W, Ext w W → Calls Tryz.prog 25 #[vx, vy] W fun e w' => e = .returned (.bool b) ∧ Ext W w') := by
 subst hR; subst hT; rw [← hx, ← hy, ← hb]
 exact Lib.hid (fun W hW => (bEqual_any _ _ _ _ _ _ _ _ W ((RowS.ext h hW).ok hi) ((RowS.ext h hW).ok hj)).mono (fun _ _ ⟨a, b⟩ => ⟨a, by rw [← b]; exact Ext.refl _⟩))
def CpOutTe (w0 : World) (base : Nat) (A : Option Addr) (n c : Nat) (d : Array TeR) (e : Ending) (w' : World) : Prop := ∃ (m : Nat) (d' : Array TeR), e = .returned (.slice A m c) ∧ m ≤ n ∧ RowS w0 w' base 28 A m c d' ∧ d'.toList.map TeR.l = compO (d.toList.map TeR.l)
theorem compactTe_any (w0 w : World) (base : Nat) (A : Option Addr) (n c : Nat) (d : Array TeR) (h : RowS w0 w base 28 A n c d) (hn : n ≤ 1000000000) (hnc : n ≤ c) (hc : c ≤ 9223372036854775807) :
  Calls Tryz.prog 66 #[.slice A n c, .func (.func 25) #[] #[]] w (CpOutTe w0 base A n c d) := by
 have HD := Lib.hid h
 have HSZ := Lib.hid (RowS.size h)
 rcases (by omega : n = 0 ∨ 1 ≤ n) with rfl | hpos
 ·have HC := Lib.hid (show d.toList.map TeR.l = compO (d.toList.map TeR.l) from by
   have : d.toList = [] := List.eq_nil_of_length_eq_zero (by simpa using HSZ.out)
   rw [this]; rfl)
  go_enter Tryz.func66, Tryz.ntmps66
  go_wp2_with fail
  go_ret
  exact ⟨0, d, rfl, Nat.le_refl _, HD.out, HC.out⟩
 have HC1 := Lib.hid (Cm1.start (V := TeR.l) (d := d) (by rw [HSZ.out]; exact hpos))
 obtain ⟨g, hA, -, -⟩ := RowS.at h (by omega)
 subst hA
 clear h
 by_cases h2 : n < 2
 ·have i1 : (n : Int) < 2 := by omega
  go_enter Tryz.func66, Tryz.ntmps66
  go_wp2_with fail
  go_ret
  exact ⟨n, d, rfl, Nat.le_refl _, HD.out, HC1.out.all (by rw [HSZ.out]; omega)⟩
 have i1 : ¬ (n : Int) < 2 := by omega
 go_enter Tryz.func66, Tryz.ntmps66
 go_wp2_with fail
 go_loopw [5] (fun vk wr => ∃ (k : Nat), vk = .int .i64 (k : Int) ∧ 1 ≤ k ∧ k ≤ n ∧ Hid (Cm1 TeR.l d k) ∧ Hid (RowS w0 wr base 28 (some ⟨g, 0, none⟩) n c d)) (fun k _ => n - (intOf k).toNat)
 case atStart => exact ⟨1, rfl, Nat.le_refl _, hpos, HC1, HD⟩
 case round =>
  clear HD HC1
  obtain ⟨k, rfl, hk1, hkn, HC, HD⟩ := hrel
  by_cases hlt : k < n
  ·have i2 : (k : Int) < (n : Int) := by omega
   obtain ⟨p, hp⟩ : ∃ p, p = k - 1 := ⟨_, rfl⟩
   have HP := Lib.hid hp
   have p0 : (k : Int) - 1 = (p : Int) := by omega
   have hpn : p < n := by omega
   have p1 : (p : Int) < (n : Int) := by omega
   have pw : IntKind.i64.wrap (p : Int) = (p : Int) := by rw [IntKind.wrap_i64]; omega
   have kw : IntKind.i64.wrap (k : Int) = (k : Int) := by rw [IntKind.wrap_i64]; omega
   clear hp
   cases hb : decide (TeR.l d[k]! = TeR.l d[p]!) with
   | false =>
    have HB := Lib.hid (of_decide_eq_false hb)
    obtain ⟨R, hR⟩ : ∃ R, d[k]! = R := ⟨_, rfl⟩
    obtain ⟨T, hT⟩ : ∃ R, d[p]! = R := ⟨_, rfl⟩
    obtain ⟨vx, hvx⟩ : ∃ v, Value.slice R.A R.n R.c = v := ⟨_, rfl⟩
    obtain ⟨vy, hvy⟩ : ∃ v, Value.slice T.A T.n T.c = v := ⟨_, rfl⟩
    have HVX := Lib.hid hvx
    have HVY := Lib.hid hvy
    have L1 := Lib.hid (fun (W : World) (he : Ext wr W) => show W.cell? ⟨g, k, none⟩ = some vx from by rw [show k = k from rfl, ← HVX.out]; exact RowTe.load HD.out rfl hlt hR he)
    have L2 := Lib.hid (fun (W : World) (he : Ext wr W) => show W.cell? ⟨g, p, none⟩ = some vy from by rw [show p = p from rfl, ← HVY.out]; exact RowTe.load HD.out rfl hpn hT he)
    have HCM := RowTe.eqv HD.out hlt hpn hR hT vx vy hvx hvy false hb
    have HKR := Lib.hid hR
    clear hvx hvy hR hT
    clear hb
    go_wp2_with fail
    refine wp_region_plan (S := fun W => Ext wr W) (by kernel_rfl) (by kernel_rfl) ((Ext.refl wr).drew') ?_
    (refine pr 0 (oi := ⟨some 18, .move (.tmp 1), 51, "slices.go:401", #[], none⟩) (v := ?_) rfl (by kernel_rfl) (by rfl) ?h ?_; case h => (intro W hSW; go_simp <;> with_reducible rfl))
    try simp only [lays]
    (refine pr 1 (oi := ⟨some 19, .move (.tmp 0), 23, "slices.go:401", #[], none⟩) (v := ?_) rfl (by kernel_rfl) (by rfl) ?h ?_; case h => (intro W hSW; go_simp <;> with_reducible rfl))
    try simp only [lays]
    (refine pr 2 (oi := ⟨some 20, .move (.tmp 5), 3, "slices.go:401", #[], none⟩) (v := ?_) rfl (by kernel_rfl) (by rfl) ?h ?_; case h => (intro W hSW; go_simp <;> with_reducible rfl))
    try simp only [lays]
    (refine pr 3 (oi := ⟨some 21, .indexAddr 23 (.tmp 19) (.tmp 20), 0, "slices.go:401", #[⟨1, .data⟩, ⟨2, .data⟩], none⟩) (v := ?_) rfl (by kernel_rfl) (by rfl) ?h ?_; case h => (intro W hSW; go_simp <;> with_reducible rfl))
    try simp only [lays]
    (refine pr 4 (oi := ⟨some 22, .load 28 (.tmp 21), 28, "slices.go:401", #[⟨3, .data⟩], none⟩) (v := ?_) rfl (by kernel_rfl) (by rfl) ?h ?_; case h => (intro W hSW; have f1 := L1.out W hSW; have f2 := L2.out W hSW; go_simp <;> with_reducible rfl))
    try simp only [lays]
    (refine pr 5 (oi := ⟨some 23, .move (.tmp 0), 23, "slices.go:401", #[], none⟩) (v := ?_) rfl (by kernel_rfl) (by rfl) ?h ?_; case h => (intro W hSW; go_simp <;> with_reducible rfl))
    try simp only [lays]
    (refine pr 6 (oi := ⟨some 24, .move (.tmp 5), 3, "slices.go:401", #[], none⟩) (v := ?_) rfl (by kernel_rfl) (by rfl) ?h ?_; case h => (intro W hSW; go_simp <;> with_reducible rfl))
    try simp only [lays]
    (refine pr 7 (oi := ⟨some 25, .binOp .sub 3 (.tmp 24) (.const (.int .i64 1)) 3, 3, "slices.go:401", #[⟨6, .data⟩], none⟩) (v := ?_) rfl (by kernel_rfl) (by rfl) ?h ?_; case h => (intro W hSW; go_simp <;> with_reducible rfl))
    try simp only [lays]
    (refine pr 8 (oi := ⟨some 26, .indexAddr 23 (.tmp 23) (.tmp 25), 0, "slices.go:401", #[⟨5, .data⟩, ⟨7, .data⟩], none⟩) (v := ?_) rfl (by kernel_rfl) (by rfl) ?h ?_; case h => (intro W hSW; go_simp <;> with_reducible rfl))
    try simp only [lays]
    (refine pr 9 (oi := ⟨some 27, .load 28 (.tmp 26), 28, "slices.go:401", #[⟨8, .data⟩], none⟩) (v := ?_) rfl (by kernel_rfl) (by rfl) ?h ?_; case h => (intro W hSW; have f1 := L1.out W hSW; have f2 := L2.out W hSW; go_simp <;> with_reducible rfl))
    try simp only [lays]
    (refine plan_take (i := 10) (oi := ⟨some 28, .call { callee := .value (.tmp 18), args := #[.tmp 22, .tmp 27], argTypes := #[28, 28] }, 4, "slices.go:401", #[⟨0, .data⟩, ⟨4, .data⟩, ⟨9, .data⟩], none⟩) (v := ?_) rfl (by kernel_rfl) (by kernel_rfl) (fx_call (by rfl) (fun W hSW K hK => ?hy5_10)) ?_; case hy5_10 => (go_simp; go_at_call 25; (with_reducible refine (HCM.out W hSW).mono ?_); rintro e w1 ⟨rfl, he1⟩; exact hK.out _ (hSW.trans he1)))
    try simp only [lays]
    refine Plan.done (by kernel_rfl) (fun W hSW => ?_)
    have HD2 := Lib.hid (RowS.ext HD.out hSW)
    have HC2 := Lib.hid (HC.out.next (by rw [HSZ.out]; exact hlt) (by rw [← HP.out]; exact HB.out))
    clear HD HCM L1 L2 hSW HVX HVY pw kw
    go_wp2_with fail
    go_roundw
    case rel => exact ⟨k + 1, by go_num, by omega, by omega, HC2, HD2⟩
    case measure => simp [intOf]; omega
   | true =>
    have HB := Lib.hid (of_decide_eq_true hb)
    obtain ⟨R, hR⟩ : ∃ R, d[k]! = R := ⟨_, rfl⟩
    obtain ⟨T, hT⟩ : ∃ R, d[p]! = R := ⟨_, rfl⟩
    obtain ⟨vx, hvx⟩ : ∃ v, Value.slice R.A R.n R.c = v := ⟨_, rfl⟩
    obtain ⟨vy, hvy⟩ : ∃ v, Value.slice T.A T.n T.c = v := ⟨_, rfl⟩
    have HVX := Lib.hid hvx
    have HVY := Lib.hid hvy
    have L1 := Lib.hid (fun (W : World) (he : Ext wr W) => show W.cell? ⟨g, k, none⟩ = some vx from by rw [show k = k from rfl, ← HVX.out]; exact RowTe.load HD.out rfl hlt hR he)
    have L2 := Lib.hid (fun (W : World) (he : Ext wr W) => show W.cell? ⟨g, p, none⟩ = some vy from by rw [show p = p from rfl, ← HVY.out]; exact RowTe.load HD.out rfl hpn hT he)
    have HCM := RowTe.eqv HD.out hlt hpn hR hT vx vy hvx hvy true hb
    have HKR := Lib.hid hR
    clear hvx hvy hR hT
    clear hb
    go_wp2_with fail
    refine wp_region_plan (S := fun W => Ext wr W) (by kernel_rfl) (by kernel_rfl) ((Ext.refl wr).drew') ?_
    (refine pr 0 (oi := ⟨some 18, .move (.tmp 1), 51, "slices.go:401", #[], none⟩) (v := ?_) rfl (by kernel_rfl) (by rfl) ?h ?_; case h => (intro W hSW; go_simp <;> with_reducible rfl))
    try simp only [lays]
    (refine pr 1 (oi := ⟨some 19, .move (.tmp 0), 23, "slices.go:401", #[], none⟩) (v := ?_) rfl (by kernel_rfl) (by rfl) ?h ?_; case h => (intro W hSW; go_simp <;> with_reducible rfl))
    try simp only [lays]
    (refine pr 2 (oi := ⟨some 20, .move (.tmp 5), 3, "slices.go:401", #[], none⟩) (v := ?_) rfl (by kernel_rfl) (by rfl) ?h ?_; case h => (intro W hSW; go_simp <;> with_reducible rfl))
    try simp only [lays]
    (refine pr 3 (oi := ⟨some 21, .indexAddr 23 (.tmp 19) (.tmp 20), 0, "slices.go:401", #[⟨1, .data⟩, ⟨2, .data⟩], none⟩) (v := ?_) rfl (by kernel_rfl) (by rfl) ?h ?_; case h => (intro W hSW; go_simp <;> with_reducible rfl))
    try simp only [lays]
    (refine pr 4 (oi := ⟨some 22, .load 28 (.tmp 21), 28, "slices.go:401", #[⟨3, .data⟩], none⟩) (v := ?_) rfl (by kernel_rfl) (by rfl) ?h ?_; case h => (intro W hSW; have f1 := L1.out W hSW; have f2 := L2.out W hSW; go_simp <;> with_reducible rfl))
    try simp only [lays]
    (refine pr 5 (oi := ⟨some 23, .move (.tmp 0), 23, "slices.go:401", #[], none⟩) (v := ?_) rfl (by kernel_rfl) (by rfl) ?h ?_; case h => (intro W hSW; go_simp <;> with_reducible rfl))
    try simp only [lays]
    (refine pr 6 (oi := ⟨some 24, .move (.tmp 5), 3, "slices.go:401", #[], none⟩) (v := ?_) rfl (by kernel_rfl) (by rfl) ?h ?_; case h => (intro W hSW; go_simp <;> with_reducible rfl))
    try simp only [lays]
    (refine pr 7 (oi := ⟨some 25, .binOp .sub 3 (.tmp 24) (.const (.int .i64 1)) 3, 3, "slices.go:401", #[⟨6, .data⟩], none⟩) (v := ?_) rfl (by kernel_rfl) (by rfl) ?h ?_; case h => (intro W hSW; go_simp <;> with_reducible rfl))
    try simp only [lays]
    (refine pr 8 (oi := ⟨some 26, .indexAddr 23 (.tmp 23) (.tmp 25), 0, "slices.go:401", #[⟨5, .data⟩, ⟨7, .data⟩], none⟩) (v := ?_) rfl (by kernel_rfl) (by rfl) ?h ?_; case h => (intro W hSW; go_simp <;> with_reducible rfl))
    try simp only [lays]
    (refine pr 9 (oi := ⟨some 27, .load 28 (.tmp 26), 28, "slices.go:401", #[⟨8, .data⟩], none⟩) (v := ?_) rfl (by kernel_rfl) (by rfl) ?h ?_; case h => (intro W hSW; have f1 := L1.out W hSW; have f2 := L2.out W hSW; go_simp <;> with_reducible rfl))
    try simp only [lays]
    (refine plan_take (i := 10) (oi := ⟨some 28, .call { callee := .value (.tmp 18), args := #[.tmp 22, .tmp 27], argTypes := #[28, 28] }, 4, "slices.go:401", #[⟨0, .data⟩, ⟨4, .data⟩, ⟨9, .data⟩], none⟩) (v := ?_) rfl (by kernel_rfl) (by kernel_rfl) (fx_call (by rfl) (fun W hSW K hK => ?hy6_10)) ?_; case hy6_10 => (go_simp; go_at_call 25; (with_reducible refine (HCM.out W hSW).mono ?_); rintro e w1 ⟨rfl, he1⟩; exact hK.out _ (hSW.trans he1)))
    try simp only [lays]
    refine Plan.done (by kernel_rfl) (fun W hSW => ?_)
    have HD2 := Lib.hid (RowS.ext HD.out hSW)
    have HC2 := Lib.hid (HC.out.dup (by rw [HSZ.out]; exact hlt) (by rw [← HP.out]; exact HB.out))
    clear HD HCM L1 L2 hSW HVX HVY pw kw p0 p1
    have k1 : k ≤ n := by omega
    have k2 : k ≤ c := by omega
    have k3 : ¬ c = k := by omega
    go_wp2_with fail
    go_loopw [5, 7] (fun vk vj wr => ∃ (kk k2 : Nat) (dk : Array TeR), vk = .int .i64 (kk : Int) ∧ vj = .int .i64 (k2 : Int) ∧ 1 ≤ k2 ∧ k2 ≤ n - k ∧ kk < k + k2 ∧ 1 ≤ kk ∧ Hid (Cmp TeR.l d dk kk (k + k2)) ∧ Hid (RowS w0 wr base 28 (some ⟨g, 0, none⟩) n c dk)) (fun _ j _ => n - k - (intOf j).toNat)
    case atStart => exact ⟨k, 1, d, rfl, rfl, Nat.le_refl _, by omega, by omega, hk1, HC2, HD2⟩
    case round =>
     clear HD2 HC2
     obtain ⟨kk, k2, dk, rfl, rfl, h21, h2n, hkk, hkp, HC, HD⟩ := hrel
     by_cases hlt2 : k2 < n - k
     ·have i3 : (k2 : Int) < ((n - k : Nat) : Int) := by omega
      obtain ⟨m, hm⟩ : ∃ m, n - k = m := ⟨_, rfl⟩
      have i4 : (k2 : Int) < (m : Int) := by omega
      obtain ⟨k3', hk3⟩ : ∃ q, q = k2 - 1 := ⟨_, rfl⟩
      have q0 : (k2 : Int) - 1 = (k3' : Int) := by omega
      have q1 : (k3' : Int) < ((n - k : Nat) : Int) := by omega
      have q2 : (k3' : Int) < (m : Int) := by omega
      have qw : IntKind.i64.wrap (k3' : Int) = (k3' : Int) := by rw [IntKind.wrap_i64]; omega
      have kw : IntKind.i64.wrap (k2 : Int) = (k2 : Int) := by rw [IntKind.wrap_i64]; omega
      obtain ⟨j, hj⟩ : ∃ j, j = k + k2 := ⟨_, rfl⟩
      obtain ⟨jp, hjp⟩ : ∃ j, j = k + k3' := ⟨_, rfl⟩
      have e1 : k + k2 = j := by rw [hj]
      have e2 : k + k3' = jp := by rw [hjp]
      have E1 := Lib.hid e1
      have E2 := Lib.hid e2
      have HJ := Lib.hid (show j = k + k2 ∧ jp = k + k2 - 1 ∧ j < d.size ∧ kk < j by rw [HSZ.out]; omega)
      have hjn : j < n := by omega
      have hjpn : jp < n := by omega
      have hkn2 : kk < n := by omega
      have kkn : (kk : Int) < (n : Int) := by omega
      have kkw : IntKind.i64.wrap (kk : Int) = (kk : Int) := by rw [IntKind.wrap_i64]; omega
      have r1 : dk[j]! = d[j]! := HC.out.rest j (by omega)
      have r2 : dk[jp]! = d[jp]! := HC.out.rest jp (by omega)
      have HRR := Lib.hid (And.intro r1 r2)
      have HMM := Lib.hid hm
      clear e1 e2 hj hjp hk3 r1 r2 hm
      cases hb : decide (TeR.l dk[j]! = TeR.l dk[jp]!) with
      | false =>
       have HB := Lib.hid (of_decide_eq_false hb)
       obtain ⟨R, hR⟩ : ∃ R, dk[j]! = R := ⟨_, rfl⟩
       obtain ⟨T, hT⟩ : ∃ R, dk[jp]! = R := ⟨_, rfl⟩
       obtain ⟨vx, hvx⟩ : ∃ v, Value.slice R.A R.n R.c = v := ⟨_, rfl⟩
       obtain ⟨vy, hvy⟩ : ∃ v, Value.slice T.A T.n T.c = v := ⟨_, rfl⟩
       have HVX := Lib.hid hvx
       have HVY := Lib.hid hvy
       have L1 := Lib.hid (fun (W : World) (he : Ext wr W) => show W.cell? ⟨g, k + k2, none⟩ = some vx from by rw [E1.out, ← HVX.out]; exact RowTe.load HD.out rfl hjn hR he)
       have L2 := Lib.hid (fun (W : World) (he : Ext wr W) => show W.cell? ⟨g, k + k3', none⟩ = some vy from by rw [E2.out, ← HVY.out]; exact RowTe.load HD.out rfl hjpn hT he)
       have HCM := RowTe.eqv HD.out hjn hjpn hR hT vx vy hvx hvy false hb
       have HKR := Lib.hid hR
       clear hvx hvy hR hT
       clear hb
       go_wp2_with fail
       refine wp_region_plan (S := fun W => Ext wr W) (by kernel_rfl) (by kernel_rfl) ((Ext.refl wr).drew') ?_
       (refine pr 0 (oi := ⟨some 38, .move (.tmp 1), 51, "slices.go:404", #[], none⟩) (v := ?_) rfl (by kernel_rfl) (by rfl) ?h ?_; case h => (intro W hSW; go_simp <;> with_reducible rfl))
       try simp only [lays]
       (refine pr 1 (oi := ⟨some 39, .move (.tmp 6), 23, "slices.go:404", #[], none⟩) (v := ?_) rfl (by kernel_rfl) (by rfl) ?h ?_; case h => (intro W hSW; go_simp <;> with_reducible rfl))
       try simp only [lays]
       (refine pr 2 (oi := ⟨some 40, .move (.tmp 7), 3, "slices.go:404", #[], none⟩) (v := ?_) rfl (by kernel_rfl) (by rfl) ?h ?_; case h => (intro W hSW; go_simp <;> with_reducible rfl))
       try simp only [lays]
       (refine pr 3 (oi := ⟨some 41, .indexAddr 23 (.tmp 39) (.tmp 40), 0, "slices.go:404", #[⟨1, .data⟩, ⟨2, .data⟩], none⟩) (v := ?_) rfl (by kernel_rfl) (by rfl) ?h ?_; case h => (intro W hSW; go_simp <;> with_reducible rfl))
       try simp only [lays]
       (refine pr 4 (oi := ⟨some 42, .load 28 (.tmp 41), 28, "slices.go:404", #[⟨3, .data⟩], none⟩) (v := ?_) rfl (by kernel_rfl) (by rfl) ?h ?_; case h => (intro W hSW; have f1 := L1.out W hSW; have f2 := L2.out W hSW; go_simp <;> with_reducible rfl))
       try simp only [lays]
       (refine pr 5 (oi := ⟨some 43, .move (.tmp 6), 23, "slices.go:404", #[], none⟩) (v := ?_) rfl (by kernel_rfl) (by rfl) ?h ?_; case h => (intro W hSW; go_simp <;> with_reducible rfl))
       try simp only [lays]
       (refine pr 6 (oi := ⟨some 44, .move (.tmp 7), 3, "slices.go:404", #[], none⟩) (v := ?_) rfl (by kernel_rfl) (by rfl) ?h ?_; case h => (intro W hSW; go_simp <;> with_reducible rfl))
       try simp only [lays]
       (refine pr 7 (oi := ⟨some 45, .binOp .sub 3 (.tmp 44) (.const (.int .i64 1)) 3, 3, "slices.go:404", #[⟨6, .data⟩], none⟩) (v := ?_) rfl (by kernel_rfl) (by rfl) ?h ?_; case h => (intro W hSW; go_simp <;> with_reducible rfl))
       try simp only [lays]
       (refine pr 8 (oi := ⟨some 46, .indexAddr 23 (.tmp 43) (.tmp 45), 0, "slices.go:404", #[⟨5, .data⟩, ⟨7, .data⟩], none⟩) (v := ?_) rfl (by kernel_rfl) (by rfl) ?h ?_; case h => (intro W hSW; go_simp <;> with_reducible rfl))
       try simp only [lays]
       (refine pr 9 (oi := ⟨some 47, .load 28 (.tmp 46), 28, "slices.go:404", #[⟨8, .data⟩], none⟩) (v := ?_) rfl (by kernel_rfl) (by rfl) ?h ?_; case h => (intro W hSW; have f1 := L1.out W hSW; have f2 := L2.out W hSW; go_simp <;> with_reducible rfl))
       try simp only [lays]
       (refine plan_take (i := 10) (oi := ⟨some 48, .call { callee := .value (.tmp 38), args := #[.tmp 42, .tmp 47], argTypes := #[28, 28] }, 4, "slices.go:404", #[⟨0, .data⟩, ⟨4, .data⟩, ⟨9, .data⟩], none⟩) (v := ?_) rfl (by kernel_rfl) (by kernel_rfl) (fx_call (by rfl) (fun W hSW K hK => ?hy7_10)) ?_; case hy7_10 => (go_simp; go_at_call 25; (with_reducible refine (HCM.out W hSW).mono ?_); rintro e w1 ⟨rfl, he1⟩; exact hK.out _ (hSW.trans he1)))
       try simp only [lays]
       (refine pr 11 (oi := ⟨some 49, .unOp .not 4 (.tmp 48), 4, "slices.go:404", #[⟨10, .data⟩], none⟩) (v := ?_) rfl (by kernel_rfl) (by rfl) ?h ?_; case h => (intro W hSW; go_simp <;> with_reducible rfl))
       try simp only [lays]
       refine Plan.done (by kernel_rfl) (fun W hSW => ?_)
       have HD2 := Lib.hid (RowS.ext HD.out hSW)
       have L1' := Lib.hid (fun (W' : World) (he : Ext W W') => L1.out W' (hSW.trans he))
       have HB2 := Lib.hid (show TeR.l d[j]! ≠ TeR.l d[j - 1]! from by
        have h1 := HB.out
        rw [HRR.out.1, HRR.out.2] at h1
        rw [show j - 1 = jp from by have := HJ.out; omega]; exact h1)
       have HC2 := Lib.hid (show Cmp TeR.l d (dk.setIfInBounds kk R) (kk + 1) (k + (k2 + 1)) from by
        have h1 := HC.out.keep (by have := HJ.out; omega) (by have := HB2.out; rw [HJ.out.1] at this; exact this)
        rw [← HJ.out.1, ← HRR.out.1, HKR.out] at h1
        rw [show k + (k2 + 1) = j + 1 from by have := HJ.out; omega]; exact h1)
       have HD3 := Lib.hid (RowTe.set HD2.out rfl hkn2 R (by rw [← HKR.out]; exact HD2.out.owAt hjn))
       have c9 : W.cell? ⟨g, k + k2, none⟩ = some vx := L1'.out W (Ext.refl _)
       obtain rfl := HVX.out
       obtain ⟨c8, c8f⟩ := RowTe.there HD2.out rfl hkn2
       clear HD HC HCM L1 L2 hSW qw HVY HKR
       go_upto_region 13 with fail
       have HD4 := Lib.hid (HD3.out)
       clear HD3 HD2 kkw
       generalize W.setCell ⟨g, kk, none⟩ (.slice R.A R.n R.c) = W8 at HD4 ⊢
       go_wp2_with fail
       go_roundw
       case rel => exact ⟨kk + 1, k2 + 1, _, by go_num, by go_num, by omega, by have := HMM.out; omega, by omega, by omega, HC2, HD4⟩
       case measure => simp [intOf]; have := HMM.out; omega
      | true =>
       have HB := Lib.hid (of_decide_eq_true hb)
       obtain ⟨R, hR⟩ : ∃ R, dk[j]! = R := ⟨_, rfl⟩
       obtain ⟨T, hT⟩ : ∃ R, dk[jp]! = R := ⟨_, rfl⟩
       obtain ⟨vx, hvx⟩ : ∃ v, Value.slice R.A R.n R.c = v := ⟨_, rfl⟩
       obtain ⟨vy, hvy⟩ : ∃ v, Value.slice T.A T.n T.c = v := ⟨_, rfl⟩
       have HVX := Lib.hid hvx
       have HVY := Lib.hid hvy
       have L1 := Lib.hid (fun (W : World) (he : Ext wr W) => show W.cell? ⟨g, k + k2, none⟩ = some vx from by rw [E1.out, ← HVX.out]; exact RowTe.load HD.out rfl hjn hR he)
       have L2 := Lib.hid (fun (W : World) (he : Ext wr W) => show W.cell? ⟨g, k + k3', none⟩ = some vy from by rw [E2.out, ← HVY.out]; exact RowTe.load HD.out rfl hjpn hT he)
       have HCM := RowTe.eqv HD.out hjn hjpn hR hT vx vy hvx hvy true hb
       have HKR := Lib.hid hR
       clear hvx hvy hR hT
       clear hb
       go_wp2_with fail
       refine wp_region_plan (S := fun W => Ext wr W) (by kernel_rfl) (by kernel_rfl) ((Ext.refl wr).drew') ?_
       (refine pr 0 (oi := ⟨some 38, .move (.tmp 1), 51, "slices.go:404", #[], none⟩) (v := ?_) rfl (by kernel_rfl) (by rfl) ?h ?_; case h => (intro W hSW; go_simp <;> with_reducible rfl))
       try simp only [lays]
       (refine pr 1 (oi := ⟨some 39, .move (.tmp 6), 23, "slices.go:404", #[], none⟩) (v := ?_) rfl (by kernel_rfl) (by rfl) ?h ?_; case h => (intro W hSW; go_simp <;> with_reducible rfl))
       try simp only [lays]
       (refine pr 2 (oi := ⟨some 40, .move (.tmp 7), 3, "slices.go:404", #[], none⟩) (v := ?_) rfl (by kernel_rfl) (by rfl) ?h ?_; case h => (intro W hSW; go_simp <;> with_reducible rfl))
       try simp only [lays]
       (refine pr 3 (oi := ⟨some 41, .indexAddr 23 (.tmp 39) (.tmp 40), 0, "slices.go:404", #[⟨1, .data⟩, ⟨2, .data⟩], none⟩) (v := ?_) rfl (by kernel_rfl) (by rfl) ?h ?_; case h => (intro W hSW; go_simp <;> with_reducible rfl))
       try simp only [lays]
       (refine pr 4 (oi := ⟨some 42, .load 28 (.tmp 41), 28, "slices.go:404", #[⟨3, .data⟩], none⟩) (v := ?_) rfl (by kernel_rfl) (by rfl) ?h ?_; case h => (intro W hSW; have f1 := L1.out W hSW; have f2 := L2.out W hSW; go_simp <;> with_reducible rfl))
       try simp only [lays]
       (refine pr 5 (oi := ⟨some 43, .move (.tmp 6), 23, "slices.go:404", #[], none⟩) (v := ?_) rfl (by kernel_rfl) (by rfl) ?h ?_; case h => (intro W hSW; go_simp <;> with_reducible rfl))
       try simp only [lays]
       (refine pr 6 (oi := ⟨some 44, .move (.tmp 7), 3, "slices.go:404", #[], none⟩) (v := ?_) rfl (by kernel_rfl) (by rfl) ?h ?_; case h => (intro W hSW; go_simp <;> with_reducible rfl))
       try simp only [lays]
       (refine pr 7 (oi := ⟨some 45, .binOp .sub 3 (.tmp 44) (.const (.int .i64 1)) 3, 3, "slices.go:404", #[⟨6, .data⟩], none⟩) (v := ?_) rfl (by kernel_rfl) (by rfl) ?h ?_; case h => (intro W hSW; go_simp <;> with_reducible rfl))
       try simp only [lays]
       (refine pr 8 (oi := ⟨some 46, .indexAddr 23 (.tmp 43) (.tmp 45), 0, "slices.go:404", #[⟨5, .data⟩, ⟨7, .data⟩], none⟩) (v := ?_) rfl (by kernel_rfl) (by rfl) ?h ?_; case h => (intro W hSW; go_simp <;> with_reducible rfl))
       try simp only [lays]
       (refine pr 9 (oi := ⟨some 47, .load 28 (.tmp 46), 28, "slices.go:404", #[⟨8, .data⟩], none⟩) (v := ?_) rfl (by kernel_rfl) (by rfl) ?h ?_; case h => (intro W hSW; have f1 := L1.out W hSW; have f2 := L2.out W hSW; go_simp <;> with_reducible rfl))
       try simp only [lays]
       (refine plan_take (i := 10) (oi := ⟨some 48, .call { callee := .value (.tmp 38), args := #[.tmp 42, .tmp 47], argTypes := #[28, 28] }, 4, "slices.go:404", #[⟨0, .data⟩, ⟨4, .data⟩, ⟨9, .data⟩], none⟩) (v := ?_) rfl (by kernel_rfl) (by kernel_rfl) (fx_call (by rfl) (fun W hSW K hK => ?hy8_10)) ?_; case hy8_10 => (go_simp; go_at_call 25; (with_reducible refine (HCM.out W hSW).mono ?_); rintro e w1 ⟨rfl, he1⟩; exact hK.out _ (hSW.trans he1)))
       try simp only [lays]
       (refine pr 11 (oi := ⟨some 49, .unOp .not 4 (.tmp 48), 4, "slices.go:404", #[⟨10, .data⟩], none⟩) (v := ?_) rfl (by kernel_rfl) (by rfl) ?h ?_; case h => (intro W hSW; go_simp <;> with_reducible rfl))
       try simp only [lays]
       refine Plan.done (by kernel_rfl) (fun W hSW => ?_)
       have HD2 := Lib.hid (RowS.ext HD.out hSW)
       have HC2 := Lib.hid (show Cmp TeR.l d dk kk (k + (k2 + 1)) from by
        have h1 := HB.out
        rw [HRR.out.1, HRR.out.2, HJ.out.2.1, HJ.out.1] at h1
        exact HC.out.dup (by have := HJ.out; omega) h1)
       clear HD HC HCM L1 L2 hSW HVX HVY qw kw kkw
       go_wp2_with fail
       go_roundw
       case rel => exact ⟨kk, k2 + 1, dk, rfl, by go_num, by omega, by have := HMM.out; omega, by omega, hkp, HC2, HD2⟩
       case measure => simp [intOf]; have := HMM.out; omega
     ·obtain ⟨m, hm⟩ : ∃ m, n - k = m := ⟨_, rfl⟩
      have i3 : ¬ (k2 : Int) < ((n - k : Nat) : Int) := by omega
      have i4 : ¬ (k2 : Int) < (m : Int) := by omega
      have y1 : kk ≤ n := by omega
      have y2 : kk ≤ c := by omega
      have y3 : ¬ c = kk := by omega
      have y4 : ¬ n = kk := by omega
      have y5 : 0 < n - kk := by omega
      have HF := Lib.hid (show (dk.toList.take kk).map TeR.l = compO (d.toList.map TeR.l) from HC.out.all (by rw [HSZ.out]; omega))
      have hcl := fun ty => run_clearG teE te0_one wr ty g (kk) (n - kk) (c - kk) y5 (RowTe.clearOk HD.out rfl y1).1 (RowTe.clearOk HD.out rfl y1).2
      have HD2 := Lib.hid (RowTe.cutClear HD.out rfl y1 (Builtin.zeroCells (Value.slice none 0 0).cells (n - kk)).toList)
      have HLE := Lib.hid y1
      clear HD HC hm
      obtain ⟨W8, hW8⟩ : ∃ W, wr.setCells g (kk) (Builtin.zeroCells (Value.slice none 0 0).cells (n - kk)).toList = W := ⟨_, rfl⟩
      simp only [hW8] at hcl
      have HD3 := Lib.hid (show RowS w0 W8 base 28 (some ⟨g, 0, none⟩) kk c (dk.toList.take kk).toArray from by rw [← hW8]; exact HD2.out)
      clear HD2 hW8
      go_wp2_with fail
      go_ret
      exact ⟨kk, _, rfl, HLE.out, HD3.out, HF.out⟩
  ·obtain rfl : k = n := by omega
   have i2 : ¬ (k : Int) < (k : Int) := by omega
   go_wp2_with fail
   go_ret
   exact ⟨k, d, rfl, Nat.le_refl _, HD.out, HC.out.all (by rw [HSZ.out]; exact Nat.le_refl _)⟩
end Go.Proofs.YtbfepgjeecndiaaGreat
