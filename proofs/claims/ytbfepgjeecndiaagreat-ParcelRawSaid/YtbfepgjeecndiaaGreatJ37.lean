/- Repetitions of signed votes struck (slices.CompactFunc). -/
import Derived.Lib.AppendZerosOnto
import Derived.Lib.SliceRun
import Derived.Test.YtbfepgjeecndiaaGreatJ28
namespace Go.Proofs.YtbfepgjeecndiaaGreat
set_option maxRecDepth 100000
set_option maxHeartbeats 8000000
open Go.RowKit
set_option linter.unusedVariables false
set_option linter.unusedSimpArgs false
set_option linter.unusedSectionVars false
attribute [local go_sem ↓] Go.wp_at_zero Go.wp_at_succ
theorem eqSg_V (R T : SgR) : eqSg R T = decide (R.V = T.V) := by
 unfold eqSg SgR.V
 by_cases h1 : R.v = T.v <;> by_cases h2 : R.sig = T.sig <;> simp [h1, h2]
theorem RowSg.load {w0 w w' : World} {base n c : Nat} {A : Option Addr} {d : Array SgR} (h : RowS w0 w base 48 A n c d) {g : Nat} (hA : A = some ⟨g, 0, none⟩) {i : Nat} (hi : i < n) {R : SgR} (hR : d[i]! = R) (he : Ext w w') : w'.rangeAt g (i * 23) (sgL R) := by
 have := (RowS.ext h he).cell hA hi
 rw [hR] at this
 exact this
theorem RowSg.eqv {w0 w : World} {base n c : Nat} {A : Option Addr} {d : Array SgR} (h : RowS w0 w base 48 A n c d) {i j : Nat} (hi : i < n) (hj : j < n) {R T : SgR} (hR : d[i]! = R) (hT : d[j]! = T) (vx vy : Value) (hx : Value.agg (sgA R) = vx) (hy : Value.agg (sgA T) = vy) (b : Bool) (hb : decide (SgR.V d[i]! = SgR.V d[j]!) = b) :
  Hid (∀ W, Ext w W → Calls Tryz.prog 65 #[vx, vy] W fun e w' => e = .returned (.bool b) ∧ Ext W w') := by
 subst hR; subst hT; rw [← hx, ← hy, ← hb, ← eqSg_V]
 exact Lib.hid (fun W hW => equalVotes_any _ _ W ((RowS.ext h hW).ok hi) ((RowS.ext h hW).ok hj))
section
variable {o : Oper} {a : Act} {w : World} {ops : Array Oper} {rest : List Oper} {Q : Exit → Act → World → Prop}
theorem wpList_loadSgV (hgd : o.guard = none) (x : Operand) (ho : o.op = .load 48 x) (b of : Nat) (hx : a.eval x = .pointer (some ⟨b, of, none⟩)) (R : SgR) (v : Value) (hv : Value.agg (sgA R) = v) (hc : w.rangeAt b of (sgL R))
  (h : wpList Tryz.prog ops Q rest (a.put o.dst v) w) : wpList Tryz.prog ops Q (o :: rest) a w := wpList_loadSg hgd x ho b of hx R hc (by rw [hv]; exact h)
theorem wpList_storeSgV (hgd : o.guard = none) (x y : Operand) (ho : o.op = .store 48 x y) (g of : Nat) (hx : a.eval x = .pointer (some ⟨g, of, none⟩)) (R : SgR) (v : Value) (hv : Value.agg (sgA R) = v) (hy : a.eval y = v) (ht : w.there g of 23)
  (h : wpList Tryz.prog ops Q rest (a.put o.dst undef) (w.setCells g of (sgL R))) : wpList Tryz.prog ops Q (o :: rest) a w :=
 wpList_store_mid hgd 48 x y ho g of (sgA R) hx (by rw [hy, ← hv]) ht (by kernel_rfl) (sgA_all R) h
end
theorem sg0_one : ∀ v ∈ (Value.agg sg0).cells, v.oneCell' = true := fun v hv => Array.all_eq_true_iff_forall_mem.1 (show sg0.all (·.oneCell') = true from by kernel_rfl) v hv
theorem te0_one : ∀ v ∈ (Value.slice none 0 0).cells, v.oneCell' = true := fun v hv => Array.all_eq_true_iff_forall_mem.1 (show (#[Value.slice none 0 0]).all (·.oneCell') = true from by kernel_rfl) v hv
def CpOutSg (w0 : World) (base : Nat) (A : Option Addr) (n c : Nat) (d : Array SgR) (e : Ending) (w' : World) : Prop := ∃ (m : Nat) (d' : Array SgR), e = .returned (.slice A m c) ∧ m ≤ n ∧ RowS w0 w' base 48 A m c d' ∧ d'.toList.map SgR.V = compO (d.toList.map SgR.V)
theorem compactSg_any (w0 w : World) (base : Nat) (A : Option Addr) (n c : Nat) (d : Array SgR) (h : RowS w0 w base 48 A n c d) (hn : n ≤ 1000000000) (hnc : n ≤ c) (hc : c ≤ 9223372036854775807) :
  Calls Tryz.prog 64 #[.slice A n c, .func (.func 65) #[] #[]] w (CpOutSg w0 base A n c d) := by
 have HD := Lib.hid h
 have HSZ := Lib.hid (RowS.size h)
 rcases (by omega : n = 0 ∨ 1 ≤ n) with rfl | hpos
 ·have HC := Lib.hid (show d.toList.map SgR.V = compO (d.toList.map SgR.V) from by
   have : d.toList = [] := List.eq_nil_of_length_eq_zero (by simpa using HSZ.out)
   rw [this]; rfl)
  go_enter Tryz.func64, Tryz.ntmps64
  go_wp2_with fail
  go_ret
  exact ⟨0, d, rfl, Nat.le_refl _, HD.out, HC.out⟩
 have HC1 := Lib.hid (Cm1.start (V := SgR.V) (d := d) (by rw [HSZ.out]; exact hpos))
 obtain ⟨g, hA, -, -⟩ := RowS.at h (by omega)
 subst hA
 clear h
 by_cases h2 : n < 2
 ·have i1 : (n : Int) < 2 := by omega
  go_enter Tryz.func64, Tryz.ntmps64
  go_wp2_with fail
  go_ret
  exact ⟨n, d, rfl, Nat.le_refl _, HD.out, HC1.out.all (by rw [HSZ.out]; omega)⟩
 have i1 : ¬ (n : Int) < 2 := by omega
 go_enter Tryz.func64, Tryz.ntmps64
 go_wp2_with fail
 go_loopw [5] (fun vk wr => ∃ (k : Nat), vk = .int .i64 (k : Int) ∧ 1 ≤ k ∧ k ≤ n ∧ Hid (Cm1 SgR.V d k) ∧ Hid (RowS w0 wr base 48 (some ⟨g, 0, none⟩) n c d)) (fun k _ => n - (intOf k).toNat)
 case atStart => exact ⟨1, rfl, Nat.le_refl _, hpos, HC1, HD⟩
 case round =>
  clear HD HC1
  obtain ⟨k, rfl, hk1, hkn, HC, HD⟩ := hrel
  by_cases hlt : k < n
  ·have i2 : (k : Int) < (n : Int) := by omega
   obtain ⟨p, hp⟩ : ∃ p, p = k - 1 := ⟨_, rfl⟩
   have HP := Lib.hid hp
   have p0 : (k : Int) - 1 = (p : Int) := by omega
   have hpn : p < n := by omega
   have p1 : (p : Int) < (n : Int) := by omega
   have pw : IntKind.i64.wrap (p : Int) = (p : Int) := by rw [IntKind.wrap_i64]; omega
   have kw : IntKind.i64.wrap (k : Int) = (k : Int) := by rw [IntKind.wrap_i64]; omega
   clear hp
   cases hb : decide (SgR.V d[k]! = SgR.V d[p]!) with
   | false =>
    have HB := Lib.hid (of_decide_eq_false hb)
    obtain ⟨R, hR⟩ : ∃ R, d[k]! = R := ⟨_, rfl⟩
    obtain ⟨T, hT⟩ : ∃ R, d[p]! = R := ⟨_, rfl⟩
    obtain ⟨vx, hvx⟩ : ∃ v, Value.agg (sgA R) = v := ⟨_, rfl⟩
    obtain ⟨vy, hvy⟩ : ∃ v, Value.agg (sgA T) = v := ⟨_, rfl⟩
    have HVX := Lib.hid hvx
    have HVY := Lib.hid hvy
    have L1 := Lib.hid (fun (W : World) (he : Ext wr W) => show W.rangeAt g (k * 23) (sgL R) from by rw [show k * 23 = k * 23 from rfl]; exact RowSg.load HD.out rfl hlt hR he)
    have L2 := Lib.hid (fun (W : World) (he : Ext wr W) => show W.rangeAt g (p * 23) (sgL T) from by rw [show p * 23 = p * 23 from rfl]; exact RowSg.load HD.out rfl hpn hT he)
    have HCM := RowSg.eqv HD.out hlt hpn hR hT vx vy hvx hvy false hb
    have HKR := Lib.hid hR
    clear hvx hvy hR hT
    clear hb
    go_wp2_with fail
    refine wp_region_plan (S := fun W => Ext wr W) (by kernel_rfl) (by kernel_rfl) ((Ext.refl wr).drew') ?_
    (refine pr 0 (oi := ⟨some 18, .move (.tmp 1), 52, "slices.go:401", #[], none⟩) (v := ?_) rfl (by kernel_rfl) (by rfl) ?h ?_; case h => (intro W hSW; go_simp <;> with_reducible rfl))
    try simp only [lays]
    (refine pr 1 (oi := ⟨some 19, .move (.tmp 0), 22, "slices.go:401", #[], none⟩) (v := ?_) rfl (by kernel_rfl) (by rfl) ?h ?_; case h => (intro W hSW; go_simp <;> with_reducible rfl))
    try simp only [lays]
    (refine pr 2 (oi := ⟨some 20, .move (.tmp 5), 3, "slices.go:401", #[], none⟩) (v := ?_) rfl (by kernel_rfl) (by rfl) ?h ?_; case h => (intro W hSW; go_simp <;> with_reducible rfl))
    try simp only [lays]
    (refine pr 3 (oi := ⟨some 21, .indexAddr 22 (.tmp 19) (.tmp 20), 0, "slices.go:401", #[⟨1, .data⟩, ⟨2, .data⟩], none⟩) (v := ?_) rfl (by kernel_rfl) (by rfl) ?h ?_; case h => (intro W hSW; go_simp <;> with_reducible rfl))
    try simp only [lays]
    (refine plan_take (i := 4) (oi := ⟨some 22, .load 48 (.tmp 21), 48, "slices.go:401", #[⟨3, .data⟩], none⟩) (v := vx) rfl (by kernel_rfl) (by kernel_rfl) (fx_read ?hy1_4) ?_; case hy1_4 => (exact yields_loadSgV (by rfl) (.tmp 21) (by rfl) g (k * 23) (by rfl) R vx HVX.out (fun W hS => L1.out W hS)))
    try simp only [lays]
    (refine pr 5 (oi := ⟨some 23, .move (.tmp 0), 22, "slices.go:401", #[], none⟩) (v := ?_) rfl (by kernel_rfl) (by rfl) ?h ?_; case h => (intro W hSW; go_simp <;> with_reducible rfl))
    try simp only [lays]
    (refine pr 6 (oi := ⟨some 24, .move (.tmp 5), 3, "slices.go:401", #[], none⟩) (v := ?_) rfl (by kernel_rfl) (by rfl) ?h ?_; case h => (intro W hSW; go_simp <;> with_reducible rfl))
    try simp only [lays]
    (refine pr 7 (oi := ⟨some 25, .binOp .sub 3 (.tmp 24) (.const (.int .i64 1)) 3, 3, "slices.go:401", #[⟨6, .data⟩], none⟩) (v := ?_) rfl (by kernel_rfl) (by rfl) ?h ?_; case h => (intro W hSW; go_simp <;> with_reducible rfl))
    try simp only [lays]
    (refine pr 8 (oi := ⟨some 26, .indexAddr 22 (.tmp 23) (.tmp 25), 0, "slices.go:401", #[⟨5, .data⟩, ⟨7, .data⟩], none⟩) (v := ?_) rfl (by kernel_rfl) (by rfl) ?h ?_; case h => (intro W hSW; go_simp <;> with_reducible rfl))
    try simp only [lays]
    (refine plan_take (i := 9) (oi := ⟨some 27, .load 48 (.tmp 26), 48, "slices.go:401", #[⟨8, .data⟩], none⟩) (v := vy) rfl (by kernel_rfl) (by kernel_rfl) (fx_read ?hy1_9) ?_; case hy1_9 => (exact yields_loadSgV (by rfl) (.tmp 26) (by rfl) g (p * 23) (by rfl) T vy HVY.out (fun W hS => L2.out W hS)))
    try simp only [lays]
    (refine plan_take (i := 10) (oi := ⟨some 28, .call { callee := .value (.tmp 18), args := #[.tmp 22, .tmp 27], argTypes := #[48, 48] }, 4, "slices.go:401", #[⟨0, .data⟩, ⟨4, .data⟩, ⟨9, .data⟩], none⟩) (v := ?_) rfl (by kernel_rfl) (by kernel_rfl) (fx_call (by rfl) (fun W hSW K hK => ?hy1_10)) ?_; case hy1_10 => (go_simp; go_at_call 65; (with_reducible refine (HCM.out W hSW).mono ?_); rintro e w1 ⟨rfl, he1⟩; exact hK.out _ (hSW.trans he1)))
    try simp only [lays]
    refine Plan.done (by kernel_rfl) (fun W hSW => ?_)
    have HD2 := Lib.hid (RowS.ext HD.out hSW)
    have HC2 := Lib.hid (HC.out.next (by rw [HSZ.out]; exact hlt) (by rw [← HP.out]; exact HB.out))
    clear HD HCM L1 L2 hSW HVX HVY pw kw
    go_wp2_with fail
    go_roundw
    case rel => exact ⟨k + 1, by go_num, by omega, by omega, HC2, HD2⟩
    case measure => simp [intOf]; omega
   | true =>
    have HB := Lib.hid (of_decide_eq_true hb)
    obtain ⟨R, hR⟩ : ∃ R, d[k]! = R := ⟨_, rfl⟩
    obtain ⟨T, hT⟩ : ∃ R, d[p]! = R := ⟨_, rfl⟩
    obtain ⟨vx, hvx⟩ : ∃ v, Value.agg (sgA R) = v := ⟨_, rfl⟩
    obtain ⟨vy, hvy⟩ : ∃ v, Value.agg (sgA T) = v := ⟨_, rfl⟩
    have HVX := Lib.hid hvx
    have HVY := Lib.hid hvy
    have L1 := Lib.hid (fun (W : World) (he : Ext wr W) => show W.rangeAt g (k * 23) (sgL R) from by rw [show k * 23 = k * 23 from rfl]; exact RowSg.load HD.out rfl hlt hR he)
    have L2 := Lib.hid (fun (W : World) (he : Ext wr W) => show W.rangeAt g (p * 23) (sgL T) from by rw [show p * 23 = p * 23 from rfl]; exact RowSg.load HD.out rfl hpn hT he)
    have HCM := RowSg.eqv HD.out hlt hpn hR hT vx vy hvx hvy true hb
    have HKR := Lib.hid hR
    clear hvx hvy hR hT
    clear hb
    go_wp2_with fail
    refine wp_region_plan (S := fun W => Ext wr W) (by kernel_rfl) (by kernel_rfl) ((Ext.refl wr).drew') ?_
    (refine pr 0 (oi := ⟨some 18, .move (.tmp 1), 52, "slices.go:401", #[], none⟩) (v := ?_) rfl (by kernel_rfl) (by rfl) ?h ?_; case h => (intro W hSW; go_simp <;> with_reducible rfl))
    try simp only [lays]
    (refine pr 1 (oi := ⟨some 19, .move (.tmp 0), 22, "slices.go:401", #[], none⟩) (v := ?_) rfl (by kernel_rfl) (by rfl) ?h ?_; case h => (intro W hSW; go_simp <;> with_reducible rfl))
    try simp only [lays]
    (refine pr 2 (oi := ⟨some 20, .move (.tmp 5), 3, "slices.go:401", #[], none⟩) (v := ?_) rfl (by kernel_rfl) (by rfl) ?h ?_; case h => (intro W hSW; go_simp <;> with_reducible rfl))
    try simp only [lays]
    (refine pr 3 (oi := ⟨some 21, .indexAddr 22 (.tmp 19) (.tmp 20), 0, "slices.go:401", #[⟨1, .data⟩, ⟨2, .data⟩], none⟩) (v := ?_) rfl (by kernel_rfl) (by rfl) ?h ?_; case h => (intro W hSW; go_simp <;> with_reducible rfl))
    try simp only [lays]
    (refine plan_take (i := 4) (oi := ⟨some 22, .load 48 (.tmp 21), 48, "slices.go:401", #[⟨3, .data⟩], none⟩) (v := vx) rfl (by kernel_rfl) (by kernel_rfl) (fx_read ?hy2_4) ?_; case hy2_4 => (exact yields_loadSgV (by rfl) (.tmp 21) (by rfl) g (k * 23) (by rfl) R vx HVX.out (fun W hS => L1.out W hS)))
    try simp only [lays]
    (refine pr 5 (oi := ⟨some 23, .move (.tmp 0), 22, "slices.go:401", #[], none⟩) (v := ?_) rfl (by kernel_rfl) (by rfl) ?h ?_; case h => (intro W hSW; go_simp <;> with_reducible rfl))
    try simp only [lays]
    (refine pr 6 (oi := ⟨some 24, .move (.tmp 5), 3, "slices.go:401", #[], none⟩) (v := ?_) rfl (by kernel_rfl) (by rfl) ?h ?_; case h => (intro W hSW; go_simp <;> with_reducible rfl))
    try simp only [lays]
    (refine pr 7 (oi := ⟨some 25, .binOp .sub 3 (.tmp 24) (.const (.int .i64 1)) 3, 3, "slices.go:401", #[⟨6, .data⟩], none⟩) (v := ?_) rfl (by kernel_rfl) (by rfl) ?h ?_; case h => (intro W hSW; go_simp <;> with_reducible rfl))
    try simp only [lays]
    (refine pr 8 (oi := ⟨some 26, .indexAddr 22 (.tmp 23) (.tmp 25), 0, "slices.go:401", #[⟨5, .data⟩, ⟨7, .data⟩], none⟩) (v := ?_) rfl (by kernel_rfl) (by rfl) ?h ?_; case h => (intro W hSW; go_simp <;> with_reducible rfl))
    try simp only [lays]
    (refine plan_take (i := 9) (oi := ⟨some 27, .load 48 (.tmp 26), 48, "slices.go:401", #[⟨8, .data⟩], none⟩) (v := vy) rfl (by kernel_rfl) (by kernel_rfl) (fx_read ?hy2_9) ?_; case hy2_9 => (exact yields_loadSgV (by rfl) (.tmp 26) (by rfl) g (p * 23) (by rfl) T vy HVY.out (fun W hS => L2.out W hS)))
    try simp only [lays]
    (refine plan_take (i := 10) (oi := ⟨some 28, .call { callee := .value (.tmp 18), args := #[.tmp 22, .tmp 27], argTypes := #[48, 48] }, 4, "slices.go:401", #[⟨0, .data⟩, ⟨4, .data⟩, ⟨9, .data⟩], none⟩) (v := ?_) rfl (by kernel_rfl) (by kernel_rfl) (fx_call (by rfl) (fun W hSW K hK => ?hy2_10)) ?_; case hy2_10 => (go_simp; go_at_call 65; (with_reducible refine (HCM.out W hSW).mono ?_); rintro e w1 ⟨rfl, he1⟩; exact hK.out _ (hSW.trans he1)))
    try simp only [lays]
    refine Plan.done (by kernel_rfl) (fun W hSW => ?_)
    have HD2 := Lib.hid (RowS.ext HD.out hSW)
    have HC2 := Lib.hid (HC.out.dup (by rw [HSZ.out]; exact hlt) (by rw [← HP.out]; exact HB.out))
    clear HD HCM L1 L2 hSW HVX HVY pw kw p0 p1
    have k1 : k ≤ n := by omega
    have k2 : k ≤ c := by omega
    have k3 : ¬ c = k := by omega
    go_wp2_with fail
    go_loopw [5, 7] (fun vk vj wr => ∃ (kk k2 : Nat) (dk : Array SgR), vk = .int .i64 (kk : Int) ∧ vj = .int .i64 (k2 : Int) ∧ 1 ≤ k2 ∧ k2 ≤ n - k ∧ kk < k + k2 ∧ 1 ≤ kk ∧ Hid (Cmp SgR.V d dk kk (k + k2)) ∧ Hid (RowS w0 wr base 48 (some ⟨g, 0, none⟩) n c dk)) (fun _ j _ => n - k - (intOf j).toNat)
    case atStart => exact ⟨k, 1, d, rfl, rfl, Nat.le_refl _, by omega, by omega, hk1, HC2, HD2⟩
    case round =>
     clear HD2 HC2
     obtain ⟨kk, k2, dk, rfl, rfl, h21, h2n, hkk, hkp, HC, HD⟩ := hrel
     by_cases hlt2 : k2 < n - k
     ·have i3 : (k2 : Int) < ((n - k : Nat) : Int) := by omega
      obtain ⟨m, hm⟩ : ∃ m, n - k = m := ⟨_, rfl⟩
      have i4 : (k2 : Int) < (m : Int) := by omega
      obtain ⟨k3', hk3⟩ : ∃ q, q = k2 - 1 := ⟨_, rfl⟩
      have q0 : (k2 : Int) - 1 = (k3' : Int) := by omega
      have q1 : (k3' : Int) < ((n - k : Nat) : Int) := by omega
      have q2 : (k3' : Int) < (m : Int) := by omega
      have qw : IntKind.i64.wrap (k3' : Int) = (k3' : Int) := by rw [IntKind.wrap_i64]; omega
      have kw : IntKind.i64.wrap (k2 : Int) = (k2 : Int) := by rw [IntKind.wrap_i64]; omega
      obtain ⟨j, hj⟩ : ∃ j, j = k + k2 := ⟨_, rfl⟩
      obtain ⟨jp, hjp⟩ : ∃ j, j = k + k3' := ⟨_, rfl⟩
      have e1 : k * 23 + k2 * 23 = j * 23 := by rw [hj, Nat.add_mul]
      have e2 : k * 23 + k3' * 23 = jp * 23 := by rw [hjp, Nat.add_mul]
      have E1 := Lib.hid e1
      have E2 := Lib.hid e2
      have HJ := Lib.hid (show j = k + k2 ∧ jp = k + k2 - 1 ∧ j < d.size ∧ kk < j by rw [HSZ.out]; omega)
      have hjn : j < n := by omega
      have hjpn : jp < n := by omega
      have hkn2 : kk < n := by omega
      have kkn : (kk : Int) < (n : Int) := by omega
      have kkw : IntKind.i64.wrap (kk : Int) = (kk : Int) := by rw [IntKind.wrap_i64]; omega
      have r1 : dk[j]! = d[j]! := HC.out.rest j (by omega)
      have r2 : dk[jp]! = d[jp]! := HC.out.rest jp (by omega)
      have HRR := Lib.hid (And.intro r1 r2)
      have HMM := Lib.hid hm
      clear e1 e2 hj hjp hk3 r1 r2 hm
      cases hb : decide (SgR.V dk[j]! = SgR.V dk[jp]!) with
      | false =>
       have HB := Lib.hid (of_decide_eq_false hb)
       obtain ⟨R, hR⟩ : ∃ R, dk[j]! = R := ⟨_, rfl⟩
       obtain ⟨T, hT⟩ : ∃ R, dk[jp]! = R := ⟨_, rfl⟩
       obtain ⟨vx, hvx⟩ : ∃ v, Value.agg (sgA R) = v := ⟨_, rfl⟩
       obtain ⟨vy, hvy⟩ : ∃ v, Value.agg (sgA T) = v := ⟨_, rfl⟩
       have HVX := Lib.hid hvx
       have HVY := Lib.hid hvy
       have L1 := Lib.hid (fun (W : World) (he : Ext wr W) => show W.rangeAt g (k * 23 + k2 * 23) (sgL R) from by rw [E1.out]; exact RowSg.load HD.out rfl hjn hR he)
       have L2 := Lib.hid (fun (W : World) (he : Ext wr W) => show W.rangeAt g (k * 23 + k3' * 23) (sgL T) from by rw [E2.out]; exact RowSg.load HD.out rfl hjpn hT he)
       have HCM := RowSg.eqv HD.out hjn hjpn hR hT vx vy hvx hvy false hb
       have HKR := Lib.hid hR
       clear hvx hvy hR hT
       clear hb
       go_wp2_with fail
       refine wp_region_plan (S := fun W => Ext wr W) (by kernel_rfl) (by kernel_rfl) ((Ext.refl wr).drew') ?_
       (refine pr 0 (oi := ⟨some 38, .move (.tmp 1), 52, "slices.go:404", #[], none⟩) (v := ?_) rfl (by kernel_rfl) (by rfl) ?h ?_; case h => (intro W hSW; go_simp <;> with_reducible rfl))
       try simp only [lays]
       (refine pr 1 (oi := ⟨some 39, .move (.tmp 6), 22, "slices.go:404", #[], none⟩) (v := ?_) rfl (by kernel_rfl) (by rfl) ?h ?_; case h => (intro W hSW; go_simp <;> with_reducible rfl))
       try simp only [lays]
       (refine pr 2 (oi := ⟨some 40, .move (.tmp 7), 3, "slices.go:404", #[], none⟩) (v := ?_) rfl (by kernel_rfl) (by rfl) ?h ?_; case h => (intro W hSW; go_simp <;> with_reducible rfl))
       try simp only [lays]
       (refine pr 3 (oi := ⟨some 41, .indexAddr 22 (.tmp 39) (.tmp 40), 0, "slices.go:404", #[⟨1, .data⟩, ⟨2, .data⟩], none⟩) (v := ?_) rfl (by kernel_rfl) (by rfl) ?h ?_; case h => (intro W hSW; go_simp <;> with_reducible rfl))
       try simp only [lays]
       (refine plan_take (i := 4) (oi := ⟨some 42, .load 48 (.tmp 41), 48, "slices.go:404", #[⟨3, .data⟩], none⟩) (v := vx) rfl (by kernel_rfl) (by kernel_rfl) (fx_read ?hy3_4) ?_; case hy3_4 => (exact yields_loadSgV (by rfl) (.tmp 41) (by rfl) g (k * 23 + k2 * 23) (by rfl) R vx HVX.out (fun W hS => L1.out W hS)))
       try simp only [lays]
       (refine pr 5 (oi := ⟨some 43, .move (.tmp 6), 22, "slices.go:404", #[], none⟩) (v := ?_) rfl (by kernel_rfl) (by rfl) ?h ?_; case h => (intro W hSW; go_simp <;> with_reducible rfl))
       try simp only [lays]
       (refine pr 6 (oi := ⟨some 44, .move (.tmp 7), 3, "slices.go:404", #[], none⟩) (v := ?_) rfl (by kernel_rfl) (by rfl) ?h ?_; case h => (intro W hSW; go_simp <;> with_reducible rfl))
       try simp only [lays]
       (refine pr 7 (oi := ⟨some 45, .binOp .sub 3 (.tmp 44) (.const (.int .i64 1)) 3, 3, "slices.go:404", #[⟨6, .data⟩], none⟩) (v := ?_) rfl (by kernel_rfl) (by rfl) ?h ?_; case h => (intro W hSW; go_simp <;> with_reducible rfl))
       try simp only [lays]
       (refine pr 8 (oi := ⟨some 46, .indexAddr 22 (.tmp 43) (.tmp 45), 0, "slices.go:404", #[⟨5, .data⟩, ⟨7, .data⟩], none⟩) (v := ?_) rfl (by kernel_rfl) (by rfl) ?h ?_; case h => (intro W hSW; go_simp <;> with_reducible rfl))
       try simp only [lays]
       (refine plan_take (i := 9) (oi := ⟨some 47, .load 48 (.tmp 46), 48, "slices.go:404", #[⟨8, .data⟩], none⟩) (v := vy) rfl (by kernel_rfl) (by kernel_rfl) (fx_read ?hy3_9) ?_; case hy3_9 => (exact yields_loadSgV (by rfl) (.tmp 46) (by rfl) g (k * 23 + k3' * 23) (by rfl) T vy HVY.out (fun W hS => L2.out W hS)))
       try simp only [lays]
       (refine plan_take (i := 10) (oi := ⟨some 48, .call { callee := .value (.tmp 38), args := #[.tmp 42, .tmp 47], argTypes := #[48, 48] }, 4, "slices.go:404", #[⟨0, .data⟩, ⟨4, .data⟩, ⟨9, .data⟩], none⟩) (v := ?_) rfl (by kernel_rfl) (by kernel_rfl) (fx_call (by rfl) (fun W hSW K hK => ?hy3_10)) ?_; case hy3_10 => (go_simp; go_at_call 65; (with_reducible refine (HCM.out W hSW).mono ?_); rintro e w1 ⟨rfl, he1⟩; exact hK.out _ (hSW.trans he1)))
       try simp only [lays]
       (refine pr 11 (oi := ⟨some 49, .unOp .not 4 (.tmp 48), 4, "slices.go:404", #[⟨10, .data⟩], none⟩) (v := ?_) rfl (by kernel_rfl) (by rfl) ?h ?_; case h => (intro W hSW; go_simp <;> with_reducible rfl))
       try simp only [lays]
       refine Plan.done (by kernel_rfl) (fun W hSW => ?_)
       have HD2 := Lib.hid (RowS.ext HD.out hSW)
       have L1' := Lib.hid (fun (W' : World) (he : Ext W W') => L1.out W' (hSW.trans he))
       have HB2 := Lib.hid (show SgR.V d[j]! ≠ SgR.V d[j - 1]! from by
        have h1 := HB.out
        rw [HRR.out.1, HRR.out.2] at h1
        rw [show j - 1 = jp from by have := HJ.out; omega]; exact h1)
       have HC2 := Lib.hid (show Cmp SgR.V d (dk.setIfInBounds kk R) (kk + 1) (k + (k2 + 1)) from by
        have h1 := HC.out.keep (by have := HJ.out; omega) (by have := HB2.out; rw [HJ.out.1] at this; exact this)
        rw [← HJ.out.1, ← HRR.out.1, HKR.out] at h1
        rw [show k + (k2 + 1) = j + 1 from by have := HJ.out; omega]; exact h1)
       have HD3 := Lib.hid (HD2.out.set rfl hkn2 R (by rw [← HKR.out]; exact HD2.out.owAt hjn))
       have ht : W.there g (kk * 23) 23 := HD2.out.there rfl hkn2
       clear HD HC HCM L1 L2 hSW qw HVY HKR
       go_upto_region 13 with (first | ((with_reducible refine wpList_loadSgV rfl (.tmp 54) rfl g (k * 23 + k2 * 23) ?hx R vx HVX.out (L1'.out _ (Ext.refl _)) ?_); case hx => rfl) | ((with_reducible refine wpList_storeSgV rfl (.tmp 56) (.tmp 55) rfl g (kk * 23) ?hx R vx HVX.out ?hy ht ?_); (case hx => rfl); (case hy => rfl)))
       have HD4 := Lib.hid (HD3.out)
       clear HD3 HD2 kkw
       generalize W.setCells g (kk * 23) (sgL R) = W8 at HD4 ⊢
       go_wp2_with fail
       go_roundw
       case rel => exact ⟨kk + 1, k2 + 1, _, by go_num, by go_num, by omega, by have := HMM.out; omega, by omega, by omega, HC2, HD4⟩
       case measure => simp [intOf]; have := HMM.out; omega
      | true =>
       have HB := Lib.hid (of_decide_eq_true hb)
       obtain ⟨R, hR⟩ : ∃ R, dk[j]! = R := ⟨_, rfl⟩
       obtain ⟨T, hT⟩ : ∃ R, dk[jp]! = R := ⟨_, rfl⟩
       obtain ⟨vx, hvx⟩ : ∃ v, Value.agg (sgA R) = v := ⟨_, rfl⟩
       obtain ⟨vy, hvy⟩ : ∃ v, Value.agg (sgA T) = v := ⟨_, rfl⟩
       have HVX := Lib.hid hvx
       have HVY := Lib.hid hvy
       have L1 := Lib.hid (fun (W : World) (he : Ext wr W) => show W.rangeAt g (k * 23 + k2 * 23) (sgL R) from by rw [E1.out]; exact RowSg.load HD.out rfl hjn hR he)
       have L2 := Lib.hid (fun (W : World) (he : Ext wr W) => show W.rangeAt g (k * 23 + k3' * 23) (sgL T) from by rw [E2.out]; exact RowSg.load HD.out rfl hjpn hT he)
       have HCM := RowSg.eqv HD.out hjn hjpn hR hT vx vy hvx hvy true hb
       have HKR := Lib.hid hR
       clear hvx hvy hR hT
       clear hb
       go_wp2_with fail
       refine wp_region_plan (S := fun W => Ext wr W) (by kernel_rfl) (by kernel_rfl) ((Ext.refl wr).drew') ?_
       (refine pr 0 (oi := ⟨some 38, .move (.tmp 1), 52, "slices.go:404", #[], none⟩) (v := ?_) rfl (by kernel_rfl) (by rfl) ?h ?_; case h => (intro W hSW; go_simp <;> with_reducible rfl))
       try simp only [lays]
       (refine pr 1 (oi := ⟨some 39, .move (.tmp 6), 22, "slices.go:404", #[], none⟩) (v := ?_) rfl (by kernel_rfl) (by rfl) ?h ?_; case h => (intro W hSW; go_simp <;> with_reducible rfl))
       try simp only [lays]
       (refine pr 2 (oi := ⟨some 40, .move (.tmp 7), 3, "slices.go:404", #[], none⟩) (v := ?_) rfl (by kernel_rfl) (by rfl) ?h ?_; case h => (intro W hSW; go_simp <;> with_reducible rfl))
       try simp only [lays]
       (refine pr 3 (oi := ⟨some 41, .indexAddr 22 (.tmp 39) (.tmp 40), 0, "slices.go:404", #[⟨1, .data⟩, ⟨2, .data⟩], none⟩) (v := ?_) rfl (by kernel_rfl) (by rfl) ?h ?_; case h => (intro W hSW; go_simp <;> with_reducible rfl))
       try simp only [lays]
       (refine plan_take (i := 4) (oi := ⟨some 42, .load 48 (.tmp 41), 48, "slices.go:404", #[⟨3, .data⟩], none⟩) (v := vx) rfl (by kernel_rfl) (by kernel_rfl) (fx_read ?hy4_4) ?_; case hy4_4 => (exact yields_loadSgV (by rfl) (.tmp 41) (by rfl) g (k * 23 + k2 * 23) (by rfl) R vx HVX.out (fun W hS => L1.out W hS)))
       try simp only [lays]
       (refine pr 5 (oi := ⟨some 43, .move (.tmp 6), 22, "slices.go:404", #[], none⟩) (v := ?_) rfl (by kernel_rfl) (by rfl) ?h ?_; case h => (intro W hSW; go_simp <;> with_reducible rfl))
       try simp only [lays]
       (refine pr 6 (oi := ⟨some 44, .move (.tmp 7), 3, "slices.go:404", #[], none⟩) (v := ?_) rfl (by kernel_rfl) (by rfl) ?h ?_; case h => (intro W hSW; go_simp <;> with_reducible rfl))
       try simp only [lays]
       (refine pr 7 (oi := ⟨some 45, .binOp .sub 3 (.tmp 44) (.const (.int .i64 1)) 3, 3, "slices.go:404", #[⟨6, .data⟩], none⟩) (v := ?_) rfl (by kernel_rfl) (by rfl) ?h ?_; case h => (intro W hSW; go_simp <;> with_reducible rfl))
       try simp only [lays]
       (refine pr 8 (oi := ⟨some 46, .indexAddr 22 (.tmp 43) (.tmp 45), 0, "slices.go:404", #[⟨5, .data⟩, ⟨7, .data⟩], none⟩) (v := ?_) rfl (by kernel_rfl) (by rfl) ?h ?_; case h => (intro W hSW; go_simp <;> with_reducible rfl))
       try simp only [lays]
       (refine plan_take (i := 9) (oi := ⟨some 47, .load 48 (.tmp 46), 48, "slices.go:404", #[⟨8, .data⟩], none⟩) (v := vy) rfl (by kernel_rfl) (by kernel_rfl) (fx_read ?hy4_9) ?_; case hy4_9 => (exact yields_loadSgV (by rfl) (.tmp 46) (by rfl) g (k * 23 + k3' * 23) (by rfl) T vy HVY.out (fun W hS => L2.out W hS)))
       try simp only [lays]
       (refine plan_take (i := 10) (oi := ⟨some 48, .call { callee := .value (.tmp 38), args := #[.tmp 42, .tmp 47], argTypes := #[48, 48] }, 4, "slices.go:404", #[⟨0, .data⟩, ⟨4, .data⟩, ⟨9, .data⟩], none⟩) (v := ?_) rfl (by kernel_rfl) (by kernel_rfl) (fx_call (by rfl) (fun W hSW K hK => ?hy4_10)) ?_; case hy4_10 => (go_simp; go_at_call 65; (with_reducible refine (HCM.out W hSW).mono ?_); rintro e w1 ⟨rfl, he1⟩; exact hK.out _ (hSW.trans he1)))
       try simp only [lays]
       (refine pr 11 (oi := ⟨some 49, .unOp .not 4 (.tmp 48), 4, "slices.go:404", #[⟨10, .data⟩], none⟩) (v := ?_) rfl (by kernel_rfl) (by rfl) ?h ?_; case h => (intro W hSW; go_simp <;> with_reducible rfl))
       try simp only [lays]
       refine Plan.done (by kernel_rfl) (fun W hSW => ?_)
       have HD2 := Lib.hid (RowS.ext HD.out hSW)
       have HC2 := Lib.hid (show Cmp SgR.V d dk kk (k + (k2 + 1)) from by
        have h1 := HB.out
        rw [HRR.out.1, HRR.out.2, HJ.out.2.1, HJ.out.1] at h1
        exact HC.out.dup (by have := HJ.out; omega) h1)
       clear HD HC HCM L1 L2 hSW HVX HVY qw kw kkw
       go_wp2_with fail
       go_roundw
       case rel => exact ⟨kk, k2 + 1, dk, rfl, by go_num, by omega, by have := HMM.out; omega, by omega, hkp, HC2, HD2⟩
       case measure => simp [intOf]; have := HMM.out; omega
     ·obtain ⟨m, hm⟩ : ∃ m, n - k = m := ⟨_, rfl⟩
      have i3 : ¬ (k2 : Int) < ((n - k : Nat) : Int) := by omega
      have i4 : ¬ (k2 : Int) < (m : Int) := by omega
      have y1 : kk ≤ n := by omega
      have y2 : kk ≤ c := by omega
      have y3 : ¬ c = kk := by omega
      have y4 : ¬ n = kk := by omega
      have y5 : 0 < n - kk := by omega
      have HF := Lib.hid (show (dk.toList.take kk).map SgR.V = compO (d.toList.map SgR.V) from HC.out.all (by rw [HSZ.out]; omega))
      have hcl := fun ty => run_clearG sgE sg0_one wr ty g (kk * 23) (n - kk) (c - kk) y5 (HD.out.clearOk rfl y1).1 (HD.out.clearOk rfl y1).2
      have HD2 := Lib.hid (HD.out.cutClear rfl y1 (Builtin.zeroCells (Value.agg sg0).cells (n - kk)).toList)
      have HLE := Lib.hid y1
      clear HD HC hm
      obtain ⟨W8, hW8⟩ : ∃ W, wr.setCells g (kk * 23) (Builtin.zeroCells (Value.agg sg0).cells (n - kk)).toList = W := ⟨_, rfl⟩
      simp only [hW8] at hcl
      have HD3 := Lib.hid (show RowS w0 W8 base 48 (some ⟨g, 0, none⟩) kk c (dk.toList.take kk).toArray from by rw [← hW8]; exact HD2.out)
      clear HD2 hW8
      go_wp2_with fail
      go_ret
      exact ⟨kk, _, rfl, HLE.out, HD3.out, HF.out⟩
  ·obtain rfl : k = n := by omega
   have i2 : ¬ (k : Int) < (k : Int) := by omega
   go_wp2_with fail
   go_ret
   exact ⟨k, d, rfl, Nat.le_refl _, HD.out, HC.out.all (by rw [HSZ.out]; exact Nat.le_refl _)⟩
end Go.Proofs.YtbfepgjeecndiaaGreat
