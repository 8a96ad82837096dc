/- The merging in place of signed votes, where one part is one element (slices' symMergeCmpFunc). -/
import Derived.Sort.WalkA
import Derived.Test.YtbfepgjeecndiaaGreatJ18
namespace Go.Proofs.YtbfepgjeecndiaaGreat
set_option maxRecDepth 100000
set_option maxHeartbeats 8000000
open Go.RowKit
set_option linter.unusedVariables false
set_option linter.unusedSimpArgs false
attribute [local go_sem ↓] Go.wp_at_zero Go.wp_at_succ
theorem symA_any (w0 w : World) (base : Nat) (A : Option Addr) (n c : Nat) (d : Array SgR) (h : RowV w0 w base A n c d) (a m b : Nat) (ham : m = a + 1) (hmb : m < b) (hb : b ≤ n) (hn : n ≤ 1000000000) (hc : c ≤ 9223372036854775807) (hs : Sort.SortedIn ltSg m b d) :
  Calls Tryz.prog 103 #[.slice A n c, .int .i64 a, .int .i64 m, .int .i64 b, .func (.func 61) #[] #[]] w (fun e w' => e = .returned (.tuple #[]) ∧ ∃ d', RowV w0 w' base A n c d' ∧ Sort.PermIn a b d d' ∧ Sort.SortedIn ltSg a b d') := by
 have HD := Lib.hid h
 have HSZ := Lib.hid (RowS.size h)
 have HS := Lib.hid hs
 have e1 : (m : Int) - (a : Int) = 1 := by omega
 have HM := Lib.hid ham
 obtain ⟨g, hA, -, -⟩ := RowS.at h (by omega)
 subst hA
 clear h hs ham
 go_enter Tryz.func103, Tryz.ntmps103
 go_wp2_with fail
 go_loopw [10, 11] (fun vi vj wr => ∃ (i j : Nat), vi = .int .i64 (i : Int) ∧ vj = .int .i64 (j : Int) ∧ m ≤ i ∧ i ≤ j ∧ j ≤ b ∧ Hid (i = m ∨ ltSg d[i - 1]! d[a]! = true) ∧ Hid (j = b ∨ ltSg d[j]! d[a]! = false) ∧ Hid (RowV w0 wr base (some ⟨g, 0, none⟩) n c d)) (fun i j _ => (intOf j).toNat - (intOf i).toNat)
 case atStart => exact ⟨m, b, rfl, rfl, Nat.le_refl _, by omega, Nat.le_refl _, Lib.hid (.inl rfl), Lib.hid (.inl rfl), HD⟩
 case round =>
  clear HD
  obtain ⟨i, j, rfl, rfl, hmi, hij, hjb, HI, HJ, HD⟩ := hrel
  by_cases hlt : i < j
  ·have i1 : (i : Int) < (j : Int) := by omega
   obtain ⟨q, hq⟩ : ∃ q, q = (i + j) / 2 := ⟨_, rfl⟩
   have HQ := Lib.hid hq
   have q0 : ((i : Int) + (j : Int)) / 2 = (q : Int) := by omega
   have hqi : i ≤ q := by omega
   have hqj : q < j := by omega
   have hqn : q < n := by omega
   have han : a < n := by omega
   have qn : (q : Int) < (n : Int) := by omega
   have an : (a : Int) < (n : Int) := by omega
   clear hq
   cases hlv : ltSg d[q]! d[a]! with
   | true =>
    have HL := Lib.hid hlv
    obtain ⟨R, hR⟩ : ∃ R, d[q]! = R := ⟨_, rfl⟩
    obtain ⟨T, hT⟩ : ∃ R, d[a]! = R := ⟨_, rfl⟩
    obtain ⟨vx, hvx⟩ : ∃ v, Value.agg (sgA R) = v := ⟨_, rfl⟩
    obtain ⟨vy, hvy⟩ : ∃ v, Value.agg (sgA T) = v := ⟨_, rfl⟩
    have HVX := Lib.hid hvx
    have HVY := Lib.hid hvy
    have L1 := Lib.hid (fun (W : World) (he : Ext wr W) => HD.out.load rfl hqn hR he)
    have L2 := Lib.hid (fun (W : World) (he : Ext wr W) => HD.out.load rfl han hT he)
    obtain ⟨z, hz, HCM⟩ := HD.out.cmp hqn han hR hT vx vy hvx hvy true hlv
    clear hvx hvy hR hT
    clear hlv
    go_wp2_with fail
    refine wp_region_plan (S := fun W => Ext wr W) (by kernel_rfl) (by kernel_rfl) ((Ext.refl wr).drew') ?_
    (refine pr 0 (oi := ⟨some 40, .move (.tmp 4), 81, "zsortanyfunc.go:390", #[], none⟩) (v := ?_) rfl (by kernel_rfl) (by rfl) ?h ?_; case h => (intro W hSW; go_simp <;> with_reducible rfl))
    try simp only [lays]
    (refine pr 1 (oi := ⟨some 41, .move (.tmp 0), 22, "zsortanyfunc.go:390", #[], none⟩) (v := ?_) rfl (by kernel_rfl) (by rfl) ?h ?_; case h => (intro W hSW; go_simp <;> with_reducible rfl))
    try simp only [lays]
    (refine pr 2 (oi := ⟨some 42, .move (.tmp 12), 3, "zsortanyfunc.go:390", #[], none⟩) (v := ?_) rfl (by kernel_rfl) (by rfl) ?h ?_; case h => (intro W hSW; go_simp <;> with_reducible rfl))
    try simp only [lays]
    (refine pr 3 (oi := ⟨some 43, .indexAddr 22 (.tmp 41) (.tmp 42), 0, "zsortanyfunc.go:390", #[⟨1, .data⟩, ⟨2, .data⟩], none⟩) (v := ?_) rfl (by kernel_rfl) (by rfl) ?h ?_; case h => (intro W hSW; go_simp <;> with_reducible rfl))
    try simp only [lays]
    (refine plan_take (i := 4) (oi := ⟨some 44, .load 48 (.tmp 43), 48, "zsortanyfunc.go:390", #[⟨3, .data⟩], none⟩) (v := vx) rfl (by kernel_rfl) (by kernel_rfl) (fx_read ?hy6_4) ?_; case hy6_4 => (exact yields_loadSgV (by rfl) (.tmp 43) (by rfl) g (q * 23) (by rfl) R vx HVX.out (fun W hS => L1.out W hS)))
    try simp only [lays]
    (refine pr 5 (oi := ⟨some 45, .move (.tmp 0), 22, "zsortanyfunc.go:390", #[], none⟩) (v := ?_) rfl (by kernel_rfl) (by rfl) ?h ?_; case h => (intro W hSW; go_simp <;> with_reducible rfl))
    try simp only [lays]
    (refine pr 6 (oi := ⟨some 46, .move (.tmp 1), 3, "zsortanyfunc.go:390", #[], none⟩) (v := ?_) rfl (by kernel_rfl) (by rfl) ?h ?_; case h => (intro W hSW; go_simp <;> with_reducible rfl))
    try simp only [lays]
    (refine pr 7 (oi := ⟨some 47, .indexAddr 22 (.tmp 45) (.tmp 46), 0, "zsortanyfunc.go:390", #[⟨5, .data⟩, ⟨6, .data⟩], none⟩) (v := ?_) rfl (by kernel_rfl) (by rfl) ?h ?_; case h => (intro W hSW; go_simp <;> with_reducible rfl))
    try simp only [lays]
    (refine plan_take (i := 8) (oi := ⟨some 48, .load 48 (.tmp 47), 48, "zsortanyfunc.go:390", #[⟨7, .data⟩], none⟩) (v := vy) rfl (by kernel_rfl) (by kernel_rfl) (fx_read ?hy6_8) ?_; case hy6_8 => (exact yields_loadSgV (by rfl) (.tmp 47) (by rfl) g (a * 23) (by rfl) T vy HVY.out (fun W hS => L2.out W hS)))
    try simp only [lays]
    (refine plan_take (i := 9) (oi := ⟨some 49, .call { callee := .value (.tmp 40), args := #[.tmp 44, .tmp 48], argTypes := #[48, 48] }, 3, "zsortanyfunc.go:390", #[⟨0, .data⟩, ⟨4, .data⟩, ⟨8, .data⟩], none⟩) (v := ?_) rfl (by kernel_rfl) (by kernel_rfl) (fx_call (by rfl) (fun W hSW K hK => ?hy6_9)) ?_; case hy6_9 => (go_simp; go_at_call 61; (with_reducible refine (HCM.out W hSW).mono ?_); rintro e w1 ⟨rfl, he1⟩; exact hK.out _ (hSW.trans he1)))
    try simp only [lays]
    (refine pr 10 (oi := ⟨some 50, .binOp .lss 3 (.tmp 49) (.const (.int .i64 0)) 3, 4, "zsortanyfunc.go:390", #[⟨9, .data⟩], none⟩) (v := ?_) rfl (by kernel_rfl) (by rfl) ?h ?_; case h => (intro W hSW; go_simp <;> with_reducible rfl))
    try simp only [lays]
    refine Plan.done (by kernel_rfl) (fun W hSW => ?_)
    have HD2 := Lib.hid (RowS.ext HD.out hSW)
    clear HD HCM L1 L2 hSW HVX HVY hz
    go_wp2_with fail
    go_roundw
    case rel => exact ⟨q + 1, j, by go_num, rfl, by omega, by omega, hjb, Lib.hid (.inr HL.out), HJ, HD2⟩
    case measure => simp [intOf]; omega
   | false =>
    have HL := Lib.hid hlv
    obtain ⟨R, hR⟩ : ∃ R, d[q]! = R := ⟨_, rfl⟩
    obtain ⟨T, hT⟩ : ∃ R, d[a]! = R := ⟨_, rfl⟩
    obtain ⟨vx, hvx⟩ : ∃ v, Value.agg (sgA R) = v := ⟨_, rfl⟩
    obtain ⟨vy, hvy⟩ : ∃ v, Value.agg (sgA T) = v := ⟨_, rfl⟩
    have HVX := Lib.hid hvx
    have HVY := Lib.hid hvy
    have L1 := Lib.hid (fun (W : World) (he : Ext wr W) => HD.out.load rfl hqn hR he)
    have L2 := Lib.hid (fun (W : World) (he : Ext wr W) => HD.out.load rfl han hT he)
    obtain ⟨z, hz, HCM⟩ := HD.out.cmp hqn han hR hT vx vy hvx hvy false hlv
    clear hvx hvy hR hT
    clear hlv
    go_wp2_with fail
    refine wp_region_plan (S := fun W => Ext wr W) (by kernel_rfl) (by kernel_rfl) ((Ext.refl wr).drew') ?_
    (refine pr 0 (oi := ⟨some 40, .move (.tmp 4), 81, "zsortanyfunc.go:390", #[], none⟩) (v := ?_) rfl (by kernel_rfl) (by rfl) ?h ?_; case h => (intro W hSW; go_simp <;> with_reducible rfl))
    try simp only [lays]
    (refine pr 1 (oi := ⟨some 41, .move (.tmp 0), 22, "zsortanyfunc.go:390", #[], none⟩) (v := ?_) rfl (by kernel_rfl) (by rfl) ?h ?_; case h => (intro W hSW; go_simp <;> with_reducible rfl))
    try simp only [lays]
    (refine pr 2 (oi := ⟨some 42, .move (.tmp 12), 3, "zsortanyfunc.go:390", #[], none⟩) (v := ?_) rfl (by kernel_rfl) (by rfl) ?h ?_; case h => (intro W hSW; go_simp <;> with_reducible rfl))
    try simp only [lays]
    (refine pr 3 (oi := ⟨some 43, .indexAddr 22 (.tmp 41) (.tmp 42), 0, "zsortanyfunc.go:390", #[⟨1, .data⟩, ⟨2, .data⟩], none⟩) (v := ?_) rfl (by kernel_rfl) (by rfl) ?h ?_; case h => (intro W hSW; go_simp <;> with_reducible rfl))
    try simp only [lays]
    (refine plan_take (i := 4) (oi := ⟨some 44, .load 48 (.tmp 43), 48, "zsortanyfunc.go:390", #[⟨3, .data⟩], none⟩) (v := vx) rfl (by kernel_rfl) (by kernel_rfl) (fx_read ?hy7_4) ?_; case hy7_4 => (exact yields_loadSgV (by rfl) (.tmp 43) (by rfl) g (q * 23) (by rfl) R vx HVX.out (fun W hS => L1.out W hS)))
    try simp only [lays]
    (refine pr 5 (oi := ⟨some 45, .move (.tmp 0), 22, "zsortanyfunc.go:390", #[], none⟩) (v := ?_) rfl (by kernel_rfl) (by rfl) ?h ?_; case h => (intro W hSW; go_simp <;> with_reducible rfl))
    try simp only [lays]
    (refine pr 6 (oi := ⟨some 46, .move (.tmp 1), 3, "zsortanyfunc.go:390", #[], none⟩) (v := ?_) rfl (by kernel_rfl) (by rfl) ?h ?_; case h => (intro W hSW; go_simp <;> with_reducible rfl))
    try simp only [lays]
    (refine pr 7 (oi := ⟨some 47, .indexAddr 22 (.tmp 45) (.tmp 46), 0, "zsortanyfunc.go:390", #[⟨5, .data⟩, ⟨6, .data⟩], none⟩) (v := ?_) rfl (by kernel_rfl) (by rfl) ?h ?_; case h => (intro W hSW; go_simp <;> with_reducible rfl))
    try simp only [lays]
    (refine plan_take (i := 8) (oi := ⟨some 48, .load 48 (.tmp 47), 48, "zsortanyfunc.go:390", #[⟨7, .data⟩], none⟩) (v := vy) rfl (by kernel_rfl) (by kernel_rfl) (fx_read ?hy7_8) ?_; case hy7_8 => (exact yields_loadSgV (by rfl) (.tmp 47) (by rfl) g (a * 23) (by rfl) T vy HVY.out (fun W hS => L2.out W hS)))
    try simp only [lays]
    (refine plan_take (i := 9) (oi := ⟨some 49, .call { callee := .value (.tmp 40), args := #[.tmp 44, .tmp 48], argTypes := #[48, 48] }, 3, "zsortanyfunc.go:390", #[⟨0, .data⟩, ⟨4, .data⟩, ⟨8, .data⟩], none⟩) (v := ?_) rfl (by kernel_rfl) (by kernel_rfl) (fx_call (by rfl) (fun W hSW K hK => ?hy7_9)) ?_; case hy7_9 => (go_simp; go_at_call 61; (with_reducible refine (HCM.out W hSW).mono ?_); rintro e w1 ⟨rfl, he1⟩; exact hK.out _ (hSW.trans he1)))
    try simp only [lays]
    (refine pr 10 (oi := ⟨some 50, .binOp .lss 3 (.tmp 49) (.const (.int .i64 0)) 3, 4, "zsortanyfunc.go:390", #[⟨9, .data⟩], none⟩) (v := ?_) rfl (by kernel_rfl) (by rfl) ?h ?_; case h => (intro W hSW; go_simp <;> with_reducible rfl))
    try simp only [lays]
    refine Plan.done (by kernel_rfl) (fun W hSW => ?_)
    have HD2 := Lib.hid (RowS.ext HD.out hSW)
    clear HD HCM L1 L2 hSW HVX HVY hz
    go_wp2_with fail
    go_roundw
    case rel => exact ⟨i, q, rfl, by go_num, by omega, by omega, by omega, HI, Lib.hid (.inr HL.out), HD2⟩
    case measure => simp [intOf]; omega
  ·obtain rfl : j = i := by omega
   have i1 : ¬ (j : Int) < (j : Int) := by omega
   have HR0 := Lib.hid (show Rot a (a + 1) (a + 1) d d from Rot.none a (a + 1) d (Nat.le_succ a))
   go_wp2_with fail
   go_loopw [13] (fun vk wr => ∃ (k : Nat) (dk : Array SgR), vk = .int .i64 (k : Int) ∧ a ≤ k ∧ k < j ∧ Hid (Rot a (a + 1) (k + 1) d dk) ∧ Hid (RowV w0 wr base (some ⟨g, 0, none⟩) n c dk)) (fun k _ => j - (intOf k).toNat)
   case atStart => exact ⟨a, d, rfl, Nat.le_refl _, by omega, HR0, HD⟩
   case round =>
    clear HD HR0
    obtain ⟨k, dk, rfl, hak, hkj, HR, HD⟩ := hrel
    obtain ⟨j1, hj1⟩ : ∃ j1, j1 = j - 1 := ⟨_, rfl⟩
    have ej : (j : Int) - 1 = (j1 : Int) := by omega
    by_cases hk : k < j1
    ·obtain ⟨k1, hk1⟩ : ∃ k1, k1 = k + 1 := ⟨_, rfl⟩
     have HK := Lib.hid hk1
     have i2 : (k : Int) < (j1 : Int) := by omega
     have k0 : (k : Int) + 1 = (k1 : Int) := by omega
     have hkn : k < n := by omega
     have hk1n : k1 < n := by omega
     have kn : (k : Int) < (n : Int) := by omega
     have k1n : (k1 : Int) < (n : Int) := by omega
     have kw : IntKind.i64.wrap (k : Int) = (k : Int) := by rw [IntKind.wrap_i64]; omega
     have k1w : IntKind.i64.wrap (k1 : Int) = (k1 : Int) := by rw [IntKind.wrap_i64]; omega
     clear hk1
     obtain ⟨R, hR⟩ : ∃ R, dk[k]! = R := ⟨_, rfl⟩
     obtain ⟨T, hT⟩ : ∃ R, dk[k1]! = R := ⟨_, rfl⟩
     obtain ⟨vx, hvx⟩ : ∃ v, Value.agg (sgA R) = v := ⟨_, rfl⟩
     obtain ⟨vy, hvy⟩ : ∃ v, Value.agg (sgA T) = v := ⟨_, rfl⟩
     have HVX := Lib.hid hvx
     have HVY := Lib.hid hvy
     obtain ⟨l1, l2, t1, t2, hx2⟩ := RowV.xchg HD.out rfl hkn hk1n hR hT wr.drew rfl
     have HX2 := Lib.hid hx2
     clear hvx hvy hR hT hx2
     go_wp2_with fail
     refine wp_region_held_drew (S := fun _ => True) (by kernel_rfl) (trivial) (fun hHeld => ?_)
     (refine Go.Proofs.YtbfepgjeecndiaaGreat.wr 0 (oi := ⟨some 61, .move (.tmp 0), 22, "zsortanyfunc.go:398", #[], none⟩) (v := ?_) rfl (by kernel_rfl) (by rfl) (fun _ _ _ h => h) ?h hHeld ?_; case h => (intro W hSW; go_simp <;> with_reducible rfl))
     try simp only [lays]
     (refine Go.Proofs.YtbfepgjeecndiaaGreat.wr 1 (oi := ⟨some 62, .move (.tmp 13), 3, "zsortanyfunc.go:398", #[], none⟩) (v := ?_) rfl (by kernel_rfl) (by rfl) (fun _ _ _ h => h) ?h hHeld ?_; case h => (intro W hSW; go_simp <;> with_reducible rfl))
     try simp only [lays]
     (refine Go.Proofs.YtbfepgjeecndiaaGreat.wr 2 (oi := ⟨some 63, .move (.tmp 0), 22, "zsortanyfunc.go:398", #[{ on := 15, ground := Ground.gcOnly Departure.lateStores }], none⟩) (v := ?_) rfl (by kernel_rfl) (by rfl) (fun _ _ _ h => h) ?h hHeld ?_; case h => (intro W hSW; go_simp <;> with_reducible rfl))
     try simp only [lays]
     (refine Go.Proofs.YtbfepgjeecndiaaGreat.wr 3 (oi := ⟨some 64, .move (.tmp 13), 3, "zsortanyfunc.go:398", #[{ on := 15, ground := Ground.gcOnly Departure.lateStores }], none⟩) (v := ?_) rfl (by kernel_rfl) (by rfl) (fun _ _ _ h => h) ?h hHeld ?_; case h => (intro W hSW; go_simp <;> with_reducible rfl))
     try simp only [lays]
     (refine Go.Proofs.YtbfepgjeecndiaaGreat.wr 4 (oi := ⟨some 65, .binOp .add 3 (.tmp 64) (.const (.int .i64 1)) 3, 3, "zsortanyfunc.go:398", #[⟨3, .data⟩, { on := 15, ground := Ground.gcOnly Departure.lateStores }], none⟩) (v := ?_) rfl (by kernel_rfl) (by rfl) (fun _ _ _ h => h) ?h hHeld ?_; case h => (intro W hSW; go_simp <;> with_reducible rfl))
     try simp only [lays]
     (refine Go.Proofs.YtbfepgjeecndiaaGreat.wr 5 (oi := ⟨some 66, .move (.tmp 0), 22, "zsortanyfunc.go:398", #[], none⟩) (v := ?_) rfl (by kernel_rfl) (by rfl) (fun _ _ _ h => h) ?h hHeld ?_; case h => (intro W hSW; go_simp <;> with_reducible rfl))
     try simp only [lays]
     (refine Go.Proofs.YtbfepgjeecndiaaGreat.wr 6 (oi := ⟨some 67, .move (.tmp 13), 3, "zsortanyfunc.go:398", #[], none⟩) (v := ?_) rfl (by kernel_rfl) (by rfl) (fun _ _ _ h => h) ?h hHeld ?_; case h => (intro W hSW; go_simp <;> with_reducible rfl))
     try simp only [lays]
     (refine Go.Proofs.YtbfepgjeecndiaaGreat.wr 7 (oi := ⟨some 68, .binOp .add 3 (.tmp 67) (.const (.int .i64 1)) 3, 3, "zsortanyfunc.go:398", #[⟨6, .data⟩], none⟩) (v := ?_) rfl (by kernel_rfl) (by rfl) (fun _ _ _ h => h) ?h hHeld ?_; case h => (intro W hSW; go_simp <;> with_reducible rfl))
     try simp only [lays]
     (refine Go.Proofs.YtbfepgjeecndiaaGreat.wr 8 (oi := ⟨some 69, .indexAddr 22 (.tmp 66) (.tmp 68), 0, "zsortanyfunc.go:398", #[⟨5, .data⟩, ⟨7, .data⟩], none⟩) (v := ?_) rfl (by kernel_rfl) (by rfl) (fun _ _ _ h => h) ?h hHeld ?_; case h => (intro W hSW; go_simp <;> with_reducible rfl))
     try simp only [lays]
     (refine Go.Proofs.YtbfepgjeecndiaaGreat.wr 10 (oi := ⟨some 71, .move (.tmp 0), 22, "zsortanyfunc.go:398", #[], none⟩) (v := ?_) rfl (by kernel_rfl) (by rfl) (fun _ _ _ h => h) ?h hHeld ?_; case h => (intro W hSW; go_simp <;> with_reducible rfl))
     try simp only [lays]
     (refine Go.Proofs.YtbfepgjeecndiaaGreat.wr 11 (oi := ⟨some 72, .move (.tmp 13), 3, "zsortanyfunc.go:398", #[], none⟩) (v := ?_) rfl (by kernel_rfl) (by rfl) (fun _ _ _ h => h) ?h hHeld ?_; case h => (intro W hSW; go_simp <;> with_reducible rfl))
     try simp only [lays]
     (refine Go.Proofs.YtbfepgjeecndiaaGreat.wr 12 (oi := ⟨some 73, .indexAddr 22 (.tmp 71) (.tmp 72), 0, "zsortanyfunc.go:398", #[⟨10, .data⟩, ⟨11, .data⟩], none⟩) (v := ?_) rfl (by kernel_rfl) (by rfl) (fun _ _ _ h => h) ?h hHeld ?_; case h => (intro W hSW; go_simp <;> with_reducible rfl))
     try simp only [lays]
     refine wpAnyH_ready (rs := [9, 13]) (by kernel_rfl) (by simp) ?_
     refine (AllReadyH.cons (o := ⟨some 70, .load 48 (.tmp 69), 48, "zsortanyfunc.go:398", #[⟨8, .data⟩], none⟩) rfl (fun K hK => ?ka8_11_12_9) (AllReadyH.cons (o := ⟨some 74, .load 48 (.tmp 73), 48, "zsortanyfunc.go:398", #[⟨12, .data⟩], none⟩) rfl (fun K hK => ?ka8_11_12_13) AllReadyH.nil))
     case' ka8_11_12_9 =>
      (refine step_loadSg rfl (.tmp 69) (by rfl) g (k1 * 23) (by rfl) T l2 vy HVY.out ?_)
      refine hK.out _ _ (trivial) (fun hHeld => ?_)
      clear hK K
      try simp only [lays]
      refine wpAnyH_ready (rs := [13]) (by kernel_rfl) (by simp) ?_
      refine (AllReadyH.cons (o := ⟨some 74, .load 48 (.tmp 73), 48, "zsortanyfunc.go:398", #[⟨12, .data⟩], none⟩) rfl (fun K hK => ?_) AllReadyH.nil)
      (refine step_loadSg rfl (.tmp 73) (by rfl) g (k * 23) (by rfl) R l1 vx HVX.out ?_)
      refine hK.out _ _ (trivial) (fun hHeld => ?_)
      clear hK K
      try simp only [lays]
      (refine Go.Proofs.YtbfepgjeecndiaaGreat.wr 14 (oi := ⟨some 75, .indexAddr 22 (.tmp 61) (.tmp 62), 0, "zsortanyfunc.go:398", #[⟨0, .data⟩, ⟨1, .data⟩, ⟨0, .phase⟩, ⟨1, .phase⟩, { on := 2, ground := Ground.textOnly Departure.lateStores }, { on := 3, ground := Ground.textOnly Departure.lateStores }, { on := 4, ground := Ground.textOnly Departure.lateStores }, ⟨5, .phase⟩, ⟨6, .phase⟩, ⟨7, .phase⟩, ⟨8, .phase⟩, ⟨9, .phase⟩, { on := 10, ground := Ground.textOnly Departure.lateStores }, { on := 11, ground := Ground.textOnly Departure.lateStores }, { on := 12, ground := Ground.textOnly Departure.lateStoresUnsure }, ⟨13, .phase⟩], none⟩) (v := ?_) rfl (by kernel_rfl) (by rfl) (fun _ _ _ h => h) ?h hHeld ?_; case h => (intro W hSW; go_simp <;> with_reducible rfl))
      try simp only [lays]
      refine wpAnyH_ready (rs := [15]) (by kernel_rfl) (by simp) ?_
      refine (AllReadyH.cons (o := ⟨none, .store 48 (.tmp 75) (.tmp 70), 0, "zsortanyfunc.go:398", #[⟨14, .data⟩, ⟨9, .data⟩, ⟨0, .phase⟩, ⟨1, .phase⟩, { on := 2, ground := Ground.textOnly Departure.lateStores }, { on := 3, ground := Ground.textOnly Departure.lateStores }, { on := 4, ground := Ground.textOnly Departure.lateStores }, ⟨5, .phase⟩, ⟨6, .phase⟩, ⟨7, .phase⟩, ⟨8, .phase⟩, ⟨9, .phase⟩, { on := 10, ground := Ground.textOnly Departure.lateStores }, { on := 11, ground := Ground.textOnly Departure.lateStores }, { on := 12, ground := Ground.textOnly Departure.lateStoresUnsure }, ⟨13, .phase⟩], none⟩) rfl (fun K hK => ?_) AllReadyH.nil)
      (refine step_storeSg rfl (.tmp 75) (.tmp 70) (by rfl) g (k * 23) (by rfl) T vy HVY.out (by rfl) t1 ?_)
      refine hK.out _ _ (trivial) (fun hHeld => ?_)
      clear hK K
      try simp only [lays]
      (refine Go.Proofs.YtbfepgjeecndiaaGreat.wr 16 (oi := ⟨some 76, .indexAddr 22 (.tmp 63) (.tmp 65), 0, "zsortanyfunc.go:398", #[⟨2, .data⟩, ⟨4, .data⟩, ⟨0, .phase⟩, ⟨1, .phase⟩, ⟨2, .phase⟩, ⟨3, .phase⟩, ⟨4, .phase⟩, ⟨5, .phase⟩, ⟨6, .phase⟩, ⟨7, .phase⟩, ⟨8, .phase⟩, ⟨9, .phase⟩, ⟨10, .phase⟩, ⟨11, .phase⟩, ⟨12, .phase⟩, ⟨13, .phase⟩, ⟨14, .phase⟩, ⟨15, .phase⟩], none⟩) (v := ?_) rfl (by kernel_rfl) (by rfl) (fun _ _ _ h => h) ?h hHeld ?_; case h => (intro W hSW; go_simp <;> with_reducible rfl))
      try simp only [lays]
      refine wpAnyH_ready (rs := [17]) (by kernel_rfl) (by simp) ?_
      refine (AllReadyH.cons (o := ⟨none, .store 48 (.tmp 76) (.tmp 74), 0, "zsortanyfunc.go:398", #[⟨16, .data⟩, ⟨13, .data⟩, ⟨15, .chain⟩, ⟨0, .phase⟩, ⟨1, .phase⟩, ⟨2, .phase⟩, ⟨3, .phase⟩, ⟨4, .phase⟩, ⟨5, .phase⟩, ⟨6, .phase⟩, ⟨7, .phase⟩, ⟨8, .phase⟩, ⟨9, .phase⟩, ⟨10, .phase⟩, ⟨11, .phase⟩, ⟨12, .phase⟩, ⟨13, .phase⟩, ⟨14, .phase⟩, ⟨15, .phase⟩], none⟩) rfl (fun K hK => ?_) AllReadyH.nil)
      (refine step_storeSg rfl (.tmp 76) (.tmp 74) (by rfl) g (k1 * 23) (by rfl) R vx HVX.out (by rfl) t2 ?_)
      refine hK.out _ _ (trivial) (fun hHeld => ?_)
      clear hK K
      try simp only [lays]
      refine wpAnyH_done (by kernel_rfl) ?_ _
     case' ka8_11_12_13 =>
      (refine step_loadSg rfl (.tmp 73) (by rfl) g (k * 23) (by rfl) R l1 vx HVX.out ?_)
      refine hK.out _ _ (trivial) (fun hHeld => ?_)
      clear hK K
      try simp only [lays]
      refine wpAnyH_ready (rs := [9]) (by kernel_rfl) (by simp) ?_
      refine (AllReadyH.cons (o := ⟨some 70, .load 48 (.tmp 69), 48, "zsortanyfunc.go:398", #[⟨8, .data⟩], none⟩) rfl (fun K hK => ?_) AllReadyH.nil)
      (refine step_loadSg rfl (.tmp 69) (by rfl) g (k1 * 23) (by rfl) T l2 vy HVY.out ?_)
      refine hK.out _ _ (trivial) (fun hHeld => ?_)
      clear hK K
      try simp only [lays]
      (refine Go.Proofs.YtbfepgjeecndiaaGreat.wr 14 (oi := ⟨some 75, .indexAddr 22 (.tmp 61) (.tmp 62), 0, "zsortanyfunc.go:398", #[⟨0, .data⟩, ⟨1, .data⟩, ⟨0, .phase⟩, ⟨1, .phase⟩, { on := 2, ground := Ground.textOnly Departure.lateStores }, { on := 3, ground := Ground.textOnly Departure.lateStores }, { on := 4, ground := Ground.textOnly Departure.lateStores }, ⟨5, .phase⟩, ⟨6, .phase⟩, ⟨7, .phase⟩, ⟨8, .phase⟩, ⟨9, .phase⟩, { on := 10, ground := Ground.textOnly Departure.lateStores }, { on := 11, ground := Ground.textOnly Departure.lateStores }, { on := 12, ground := Ground.textOnly Departure.lateStoresUnsure }, ⟨13, .phase⟩], none⟩) (v := ?_) rfl (by kernel_rfl) (by rfl) (fun _ _ _ h => h) ?h hHeld ?_; case h => (intro W hSW; go_simp <;> with_reducible rfl))
      try simp only [lays]
      refine wpAnyH_ready (rs := [15]) (by kernel_rfl) (by simp) ?_
      refine (AllReadyH.cons (o := ⟨none, .store 48 (.tmp 75) (.tmp 70), 0, "zsortanyfunc.go:398", #[⟨14, .data⟩, ⟨9, .data⟩, ⟨0, .phase⟩, ⟨1, .phase⟩, { on := 2, ground := Ground.textOnly Departure.lateStores }, { on := 3, ground := Ground.textOnly Departure.lateStores }, { on := 4, ground := Ground.textOnly Departure.lateStores }, ⟨5, .phase⟩, ⟨6, .phase⟩, ⟨7, .phase⟩, ⟨8, .phase⟩, ⟨9, .phase⟩, { on := 10, ground := Ground.textOnly Departure.lateStores }, { on := 11, ground := Ground.textOnly Departure.lateStores }, { on := 12, ground := Ground.textOnly Departure.lateStoresUnsure }, ⟨13, .phase⟩], none⟩) rfl (fun K hK => ?_) AllReadyH.nil)
      (refine step_storeSg rfl (.tmp 75) (.tmp 70) (by rfl) g (k * 23) (by rfl) T vy HVY.out (by rfl) t1 ?_)
      refine hK.out _ _ (trivial) (fun hHeld => ?_)
      clear hK K
      try simp only [lays]
      (refine Go.Proofs.YtbfepgjeecndiaaGreat.wr 16 (oi := ⟨some 76, .indexAddr 22 (.tmp 63) (.tmp 65), 0, "zsortanyfunc.go:398", #[⟨2, .data⟩, ⟨4, .data⟩, ⟨0, .phase⟩, ⟨1, .phase⟩, ⟨2, .phase⟩, ⟨3, .phase⟩, ⟨4, .phase⟩, ⟨5, .phase⟩, ⟨6, .phase⟩, ⟨7, .phase⟩, ⟨8, .phase⟩, ⟨9, .phase⟩, ⟨10, .phase⟩, ⟨11, .phase⟩, ⟨12, .phase⟩, ⟨13, .phase⟩, ⟨14, .phase⟩, ⟨15, .phase⟩], none⟩) (v := ?_) rfl (by kernel_rfl) (by rfl) (fun _ _ _ h => h) ?h hHeld ?_; case h => (intro W hSW; go_simp <;> with_reducible rfl))
      try simp only [lays]
      refine wpAnyH_ready (rs := [17]) (by kernel_rfl) (by simp) ?_
      refine (AllReadyH.cons (o := ⟨none, .store 48 (.tmp 76) (.tmp 74), 0, "zsortanyfunc.go:398", #[⟨16, .data⟩, ⟨13, .data⟩, ⟨15, .chain⟩, ⟨0, .phase⟩, ⟨1, .phase⟩, ⟨2, .phase⟩, ⟨3, .phase⟩, ⟨4, .phase⟩, ⟨5, .phase⟩, ⟨6, .phase⟩, ⟨7, .phase⟩, ⟨8, .phase⟩, ⟨9, .phase⟩, ⟨10, .phase⟩, ⟨11, .phase⟩, ⟨12, .phase⟩, ⟨13, .phase⟩, ⟨14, .phase⟩, ⟨15, .phase⟩], none⟩) rfl (fun K hK => ?_) AllReadyH.nil)
      (refine step_storeSg rfl (.tmp 76) (.tmp 74) (by rfl) g (k1 * 23) (by rfl) R vx HVX.out (by rfl) t2 ?_)
      refine hK.out _ _ (trivial) (fun hHeld => ?_)
      clear hK K
      try simp only [lays]
      refine wpAnyH_done (by kernel_rfl) ?_ _
     all_goals (
      have HD8 := Lib.hid HX2.out
      have HR8 := Lib.hid (show Rot a (a + 1) (k1 + 1) d (Sort.swp dk k k1) from by rw [HK.out]; exact HR.out.up hak (by rw [HSZ.out]; omega))
      generalize (wr.drew.setCells g (k * 23) (sgL T)).setCells g (k1 * 23) (sgL R) = W8 at HD8 ⊢
      clear HX2 HD t1 t2 l1 l2 hHeld kw k1w
      go_wp2_with fail
      go_roundw
      case rel => exact ⟨k1, _, by go_num, by omega, by omega, HR8, HD8⟩
      case measure => simp [intOf]; omega)
    ·have i2 : ¬ (k : Int) < (j1 : Int) := by omega
     obtain rfl : k = j1 := by omega
     go_wp2_with fail
     (try simp only [Exit.inBlock, Exit.then]); refine bodyPost_ret (results_none rfl _ _ _) rfl ?_
     have hR := HR.out
     rw [show k + 1 = j from by omega] at hR
     exact ⟨rfl, dk, HD.out, Sort.permIn_mono _ _ _ _ _ _ (Nat.le_refl _) hjb (by rw [HSZ.out]; exact hb) (hR.perm (Nat.le_succ a) (by omega) (by rw [HSZ.out]; omega)), ins_left ltSg_swo (by omega) hjb (by rw [← HM.out]; exact HS.out) (by rw [← HM.out]; exact HI.out) HJ.out hR⟩
theorem symB_any (w0 w : World) (base : Nat) (A : Option Addr) (n c : Nat) (d : Array SgR) (h : RowV w0 w base A n c d) (a m b : Nat) (ham : a + 1 < m) (hmb : b = m + 1) (hb : b ≤ n) (hn : n ≤ 1000000000) (hc : c ≤ 9223372036854775807) (hs : Sort.SortedIn ltSg a m d) :
  Calls Tryz.prog 103 #[.slice A n c, .int .i64 a, .int .i64 m, .int .i64 b, .func (.func 61) #[] #[]] w (fun e w' => e = .returned (.tuple #[]) ∧ ∃ d', RowV w0 w' base A n c d' ∧ Sort.PermIn a b d d' ∧ Sort.SortedIn ltSg a b d') := by
 have HD := Lib.hid h
 have HSZ := Lib.hid (RowS.size h)
 have HS := Lib.hid hs
 obtain ⟨x, hx⟩ : ∃ x, x = m - a := ⟨_, rfl⟩
 have e1 : (m : Int) - (a : Int) = (x : Int) := by omega
 have x1 : ¬ (x : Int) = 1 := by omega
 have xb : ((x : Int) == 1) = false := by simp; omega
 have e2 : (b : Int) - (m : Int) = 1 := by omega
 have HM := Lib.hid hmb
 have hmn : m < n := by omega
 have mn : (m : Int) < (n : Int) := by omega
 have hxn : x ≤ n := by omega
 obtain ⟨g, hA, -, -⟩ := RowS.at h (by omega)
 subst hA
 clear h hs hmb hx
 go_enter Tryz.func103, Tryz.ntmps103
 go_wp2_with fail
 go_loopw [14, 15] (fun vi vj wr => ∃ (i j : Nat), vi = .int .i64 (i : Int) ∧ vj = .int .i64 (j : Int) ∧ a ≤ i ∧ i ≤ j ∧ j ≤ m ∧ Hid (i = a ∨ ltSg d[m]! d[i - 1]! = false) ∧ Hid (j = m ∨ ltSg d[m]! d[j]! = true) ∧ Hid (RowV w0 wr base (some ⟨g, 0, none⟩) n c d)) (fun i j _ => (intOf j).toNat - (intOf i).toNat)
 case atStart => exact ⟨a, m, rfl, rfl, Nat.le_refl _, by omega, Nat.le_refl _, Lib.hid (.inl rfl), Lib.hid (.inl rfl), HD⟩
 case round =>
  clear HD
  obtain ⟨i, j, rfl, rfl, hmi, hij, hjb, HI, HJ, HD⟩ := hrel
  by_cases hlt : i < j
  ·have i1 : (i : Int) < (j : Int) := by omega
   obtain ⟨q, hq⟩ : ∃ q, q = (i + j) / 2 := ⟨_, rfl⟩
   have HQ := Lib.hid hq
   have q0 : ((i : Int) + (j : Int)) / 2 = (q : Int) := by omega
   have hqi : i ≤ q := by omega
   have hqj : q < j := by omega
   have hqn : q < n := by omega
   have qn : (q : Int) < (n : Int) := by omega
   clear hq
   cases hlv : ltSg d[m]! d[q]! with
   | true =>
    have HL := Lib.hid hlv
    obtain ⟨R, hR⟩ : ∃ R, d[m]! = R := ⟨_, rfl⟩
    obtain ⟨T, hT⟩ : ∃ R, d[q]! = R := ⟨_, rfl⟩
    obtain ⟨vx, hvx⟩ : ∃ v, Value.agg (sgA R) = v := ⟨_, rfl⟩
    obtain ⟨vy, hvy⟩ : ∃ v, Value.agg (sgA T) = v := ⟨_, rfl⟩
    have HVX := Lib.hid hvx
    have HVY := Lib.hid hvy
    have L1 := Lib.hid (fun (W : World) (he : Ext wr W) => HD.out.load rfl hmn hR he)
    have L2 := Lib.hid (fun (W : World) (he : Ext wr W) => HD.out.load rfl hqn hT he)
    obtain ⟨z, hz, HCM⟩ := HD.out.cmp hmn hqn hR hT vx vy hvx hvy true hlv
    clear hvx hvy hR hT
    clear hlv
    go_wp2_with fail
    refine wp_region_plan (S := fun W => Ext wr W) (by kernel_rfl) (by kernel_rfl) ((Ext.refl wr).drew') ?_
    (refine pr 0 (oi := ⟨some 92, .move (.tmp 4), 81, "zsortanyfunc.go:414", #[], none⟩) (v := ?_) rfl (by kernel_rfl) (by rfl) ?h ?_; case h => (intro W hSW; go_simp <;> with_reducible rfl))
    try simp only [lays]
    (refine pr 1 (oi := ⟨some 93, .move (.tmp 0), 22, "zsortanyfunc.go:414", #[], none⟩) (v := ?_) rfl (by kernel_rfl) (by rfl) ?h ?_; case h => (intro W hSW; go_simp <;> with_reducible rfl))
    try simp only [lays]
    (refine pr 2 (oi := ⟨some 94, .move (.tmp 2), 3, "zsortanyfunc.go:414", #[], none⟩) (v := ?_) rfl (by kernel_rfl) (by rfl) ?h ?_; case h => (intro W hSW; go_simp <;> with_reducible rfl))
    try simp only [lays]
    (refine pr 3 (oi := ⟨some 95, .indexAddr 22 (.tmp 93) (.tmp 94), 0, "zsortanyfunc.go:414", #[⟨1, .data⟩, ⟨2, .data⟩], none⟩) (v := ?_) rfl (by kernel_rfl) (by rfl) ?h ?_; case h => (intro W hSW; go_simp <;> with_reducible rfl))
    try simp only [lays]
    (refine plan_take (i := 4) (oi := ⟨some 96, .load 48 (.tmp 95), 48, "zsortanyfunc.go:414", #[⟨3, .data⟩], none⟩) (v := vx) rfl (by kernel_rfl) (by kernel_rfl) (fx_read ?hy9_4) ?_; case hy9_4 => (exact yields_loadSgV (by rfl) (.tmp 95) (by rfl) g (m * 23) (by rfl) R vx HVX.out (fun W hS => L1.out W hS)))
    try simp only [lays]
    (refine pr 5 (oi := ⟨some 97, .move (.tmp 0), 22, "zsortanyfunc.go:414", #[], none⟩) (v := ?_) rfl (by kernel_rfl) (by rfl) ?h ?_; case h => (intro W hSW; go_simp <;> with_reducible rfl))
    try simp only [lays]
    (refine pr 6 (oi := ⟨some 98, .move (.tmp 16), 3, "zsortanyfunc.go:414", #[], none⟩) (v := ?_) rfl (by kernel_rfl) (by rfl) ?h ?_; case h => (intro W hSW; go_simp <;> with_reducible rfl))
    try simp only [lays]
    (refine pr 7 (oi := ⟨some 99, .indexAddr 22 (.tmp 97) (.tmp 98), 0, "zsortanyfunc.go:414", #[⟨5, .data⟩, ⟨6, .data⟩], none⟩) (v := ?_) rfl (by kernel_rfl) (by rfl) ?h ?_; case h => (intro W hSW; go_simp <;> with_reducible rfl))
    try simp only [lays]
    (refine plan_take (i := 8) (oi := ⟨some 100, .load 48 (.tmp 99), 48, "zsortanyfunc.go:414", #[⟨7, .data⟩], none⟩) (v := vy) rfl (by kernel_rfl) (by kernel_rfl) (fx_read ?hy9_8) ?_; case hy9_8 => (exact yields_loadSgV (by rfl) (.tmp 99) (by rfl) g (q * 23) (by rfl) T vy HVY.out (fun W hS => L2.out W hS)))
    try simp only [lays]
    (refine plan_take (i := 9) (oi := ⟨some 101, .call { callee := .value (.tmp 92), args := #[.tmp 96, .tmp 100], argTypes := #[48, 48] }, 3, "zsortanyfunc.go:414", #[⟨0, .data⟩, ⟨4, .data⟩, ⟨8, .data⟩], none⟩) (v := ?_) rfl (by kernel_rfl) (by kernel_rfl) (fx_call (by rfl) (fun W hSW K hK => ?hy9_9)) ?_; case hy9_9 => (go_simp; go_at_call 61; (with_reducible refine (HCM.out W hSW).mono ?_); rintro e w1 ⟨rfl, he1⟩; exact hK.out _ (hSW.trans he1)))
    try simp only [lays]
    (refine pr 10 (oi := ⟨some 102, .binOp .lss 3 (.tmp 101) (.const (.int .i64 0)) 3, 4, "zsortanyfunc.go:414", #[⟨9, .data⟩], none⟩) (v := ?_) rfl (by kernel_rfl) (by rfl) ?h ?_; case h => (intro W hSW; go_simp <;> with_reducible rfl))
    try simp only [lays]
    (refine pr 11 (oi := ⟨some 103, .unOp .not 4 (.tmp 102), 4, "zsortanyfunc.go:414", #[⟨10, .data⟩], none⟩) (v := ?_) rfl (by kernel_rfl) (by rfl) ?h ?_; case h => (intro W hSW; go_simp <;> with_reducible rfl))
    try simp only [lays]
    refine Plan.done (by kernel_rfl) (fun W hSW => ?_)
    have HD2 := Lib.hid (RowS.ext HD.out hSW)
    clear HD HCM L1 L2 hSW HVX HVY hz
    go_wp2_with fail
    go_roundw
    case rel => exact ⟨i, q, rfl, by go_num, by omega, by omega, by omega, HI, Lib.hid (.inr HL.out), HD2⟩
    case measure => simp [intOf]; omega
   | false =>
    have HL := Lib.hid hlv
    obtain ⟨R, hR⟩ : ∃ R, d[m]! = R := ⟨_, rfl⟩
    obtain ⟨T, hT⟩ : ∃ R, d[q]! = R := ⟨_, rfl⟩
    obtain ⟨vx, hvx⟩ : ∃ v, Value.agg (sgA R) = v := ⟨_, rfl⟩
    obtain ⟨vy, hvy⟩ : ∃ v, Value.agg (sgA T) = v := ⟨_, rfl⟩
    have HVX := Lib.hid hvx
    have HVY := Lib.hid hvy
    have L1 := Lib.hid (fun (W : World) (he : Ext wr W) => HD.out.load rfl hmn hR he)
    have L2 := Lib.hid (fun (W : World) (he : Ext wr W) => HD.out.load rfl hqn hT he)
    obtain ⟨z, hz, HCM⟩ := HD.out.cmp hmn hqn hR hT vx vy hvx hvy false hlv
    clear hvx hvy hR hT
    clear hlv
    go_wp2_with fail
    refine wp_region_plan (S := fun W => Ext wr W) (by kernel_rfl) (by kernel_rfl) ((Ext.refl wr).drew') ?_
    (refine pr 0 (oi := ⟨some 92, .move (.tmp 4), 81, "zsortanyfunc.go:414", #[], none⟩) (v := ?_) rfl (by kernel_rfl) (by rfl) ?h ?_; case h => (intro W hSW; go_simp <;> with_reducible rfl))
    try simp only [lays]
    (refine pr 1 (oi := ⟨some 93, .move (.tmp 0), 22, "zsortanyfunc.go:414", #[], none⟩) (v := ?_) rfl (by kernel_rfl) (by rfl) ?h ?_; case h => (intro W hSW; go_simp <;> with_reducible rfl))
    try simp only [lays]
    (refine pr 2 (oi := ⟨some 94, .move (.tmp 2), 3, "zsortanyfunc.go:414", #[], none⟩) (v := ?_) rfl (by kernel_rfl) (by rfl) ?h ?_; case h => (intro W hSW; go_simp <;> with_reducible rfl))
    try simp only [lays]
    (refine pr 3 (oi := ⟨some 95, .indexAddr 22 (.tmp 93) (.tmp 94), 0, "zsortanyfunc.go:414", #[⟨1, .data⟩, ⟨2, .data⟩], none⟩) (v := ?_) rfl (by kernel_rfl) (by rfl) ?h ?_; case h => (intro W hSW; go_simp <;> with_reducible rfl))
    try simp only [lays]
    (refine plan_take (i := 4) (oi := ⟨some 96, .load 48 (.tmp 95), 48, "zsortanyfunc.go:414", #[⟨3, .data⟩], none⟩) (v := vx) rfl (by kernel_rfl) (by kernel_rfl) (fx_read ?hy10_4) ?_; case hy10_4 => (exact yields_loadSgV (by rfl) (.tmp 95) (by rfl) g (m * 23) (by rfl) R vx HVX.out (fun W hS => L1.out W hS)))
    try simp only [lays]
    (refine pr 5 (oi := ⟨some 97, .move (.tmp 0), 22, "zsortanyfunc.go:414", #[], none⟩) (v := ?_) rfl (by kernel_rfl) (by rfl) ?h ?_; case h => (intro W hSW; go_simp <;> with_reducible rfl))
    try simp only [lays]
    (refine pr 6 (oi := ⟨some 98, .move (.tmp 16), 3, "zsortanyfunc.go:414", #[], none⟩) (v := ?_) rfl (by kernel_rfl) (by rfl) ?h ?_; case h => (intro W hSW; go_simp <;> with_reducible rfl))
    try simp only [lays]
    (refine pr 7 (oi := ⟨some 99, .indexAddr 22 (.tmp 97) (.tmp 98), 0, "zsortanyfunc.go:414", #[⟨5, .data⟩, ⟨6, .data⟩], none⟩) (v := ?_) rfl (by kernel_rfl) (by rfl) ?h ?_; case h => (intro W hSW; go_simp <;> with_reducible rfl))
    try simp only [lays]
    (refine plan_take (i := 8) (oi := ⟨some 100, .load 48 (.tmp 99), 48, "zsortanyfunc.go:414", #[⟨7, .data⟩], none⟩) (v := vy) rfl (by kernel_rfl) (by kernel_rfl) (fx_read ?hy10_8) ?_; case hy10_8 => (exact yields_loadSgV (by rfl) (.tmp 99) (by rfl) g (q * 23) (by rfl) T vy HVY.out (fun W hS => L2.out W hS)))
    try simp only [lays]
    (refine plan_take (i := 9) (oi := ⟨some 101, .call { callee := .value (.tmp 92), args := #[.tmp 96, .tmp 100], argTypes := #[48, 48] }, 3, "zsortanyfunc.go:414", #[⟨0, .data⟩, ⟨4, .data⟩, ⟨8, .data⟩], none⟩) (v := ?_) rfl (by kernel_rfl) (by kernel_rfl) (fx_call (by rfl) (fun W hSW K hK => ?hy10_9)) ?_; case hy10_9 => (go_simp; go_at_call 61; (with_reducible refine (HCM.out W hSW).mono ?_); rintro e w1 ⟨rfl, he1⟩; exact hK.out _ (hSW.trans he1)))
    try simp only [lays]
    (refine pr 10 (oi := ⟨some 102, .binOp .lss 3 (.tmp 101) (.const (.int .i64 0)) 3, 4, "zsortanyfunc.go:414", #[⟨9, .data⟩], none⟩) (v := ?_) rfl (by kernel_rfl) (by rfl) ?h ?_; case h => (intro W hSW; go_simp <;> with_reducible rfl))
    try simp only [lays]
    (refine pr 11 (oi := ⟨some 103, .unOp .not 4 (.tmp 102), 4, "zsortanyfunc.go:414", #[⟨10, .data⟩], none⟩) (v := ?_) rfl (by kernel_rfl) (by rfl) ?h ?_; case h => (intro W hSW; go_simp <;> with_reducible rfl))
    try simp only [lays]
    refine Plan.done (by kernel_rfl) (fun W hSW => ?_)
    have HD2 := Lib.hid (RowS.ext HD.out hSW)
    clear HD HCM L1 L2 hSW HVX HVY hz
    go_wp2_with fail
    go_roundw
    case rel => exact ⟨q + 1, j, by go_num, rfl, by omega, by omega, hjb, Lib.hid (.inr HL.out), HJ, HD2⟩
    case measure => simp [intOf]; omega
  ·obtain rfl : j = i := by omega
   have i1 : ¬ (j : Int) < (j : Int) := by omega
   have HR0 := Lib.hid (show Rot m m (m + 1) d d from Rot.none' m (m + 1) d (Nat.le_succ m))
   go_wp2_with fail
   go_loopw [17] (fun vk wr => ∃ (k : Nat) (dk : Array SgR), vk = .int .i64 (k : Int) ∧ j ≤ k ∧ k ≤ m ∧ Hid (Rot k m (m + 1) d dk) ∧ Hid (RowV w0 wr base (some ⟨g, 0, none⟩) n c dk)) (fun k _ => (intOf k).toNat)
   case atStart => exact ⟨m, d, rfl, by omega, Nat.le_refl _, HR0, HD⟩
   case round =>
    clear HD HR0
    obtain ⟨k, dk, rfl, hjk, hkm, HR, HD⟩ := hrel
    by_cases hk : j < k
    ·obtain ⟨k1, hk1⟩ : ∃ k1, k1 = k - 1 := ⟨_, rfl⟩
     have HK := Lib.hid (show k = k1 + 1 by omega)
     have i2 : (j : Int) < (k : Int) := by omega
     have k0 : (k : Int) - 1 = (k1 : Int) := by omega
     have hkn : k < n := by omega
     have hk1n : k1 < n := by omega
     have kn : (k : Int) < (n : Int) := by omega
     have k1n : (k1 : Int) < (n : Int) := by omega
     have kw : IntKind.i64.wrap (k : Int) = (k : Int) := by rw [IntKind.wrap_i64]; omega
     have k1w : IntKind.i64.wrap (k1 : Int) = (k1 : Int) := by rw [IntKind.wrap_i64]; omega
     clear hk1
     obtain ⟨R, hR⟩ : ∃ R, dk[k]! = R := ⟨_, rfl⟩
     obtain ⟨T, hT⟩ : ∃ R, dk[k1]! = R := ⟨_, rfl⟩
     obtain ⟨vx, hvx⟩ : ∃ v, Value.agg (sgA R) = v := ⟨_, rfl⟩
     obtain ⟨vy, hvy⟩ : ∃ v, Value.agg (sgA T) = v := ⟨_, rfl⟩
     have HVX := Lib.hid hvx
     have HVY := Lib.hid hvy
     obtain ⟨l1, l2, t1, t2, hx2⟩ := RowV.xchg HD.out rfl hkn hk1n hR hT wr.drew rfl
     have HX2 := Lib.hid hx2
     clear hvx hvy hR hT hx2
     go_wp2_with fail
     refine wp_region_held_drew (S := fun _ => True) (by kernel_rfl) (trivial) (fun hHeld => ?_)
     (refine Go.Proofs.YtbfepgjeecndiaaGreat.wr 0 (oi := ⟨some 113, .move (.tmp 0), 22, "zsortanyfunc.go:422", #[], none⟩) (v := ?_) rfl (by kernel_rfl) (by rfl) (fun _ _ _ h => h) ?h hHeld ?_; case h => (intro W hSW; go_simp <;> with_reducible rfl))
     try simp only [lays]
     (refine Go.Proofs.YtbfepgjeecndiaaGreat.wr 1 (oi := ⟨some 114, .move (.tmp 17), 3, "zsortanyfunc.go:422", #[], none⟩) (v := ?_) rfl (by kernel_rfl) (by rfl) (fun _ _ _ h => h) ?h hHeld ?_; case h => (intro W hSW; go_simp <;> with_reducible rfl))
     try simp only [lays]
     (refine Go.Proofs.YtbfepgjeecndiaaGreat.wr 2 (oi := ⟨some 115, .move (.tmp 0), 22, "zsortanyfunc.go:422", #[{ on := 15, ground := Ground.gcOnly Departure.lateStores }], none⟩) (v := ?_) rfl (by kernel_rfl) (by rfl) (fun _ _ _ h => h) ?h hHeld ?_; case h => (intro W hSW; go_simp <;> with_reducible rfl))
     try simp only [lays]
     (refine Go.Proofs.YtbfepgjeecndiaaGreat.wr 3 (oi := ⟨some 116, .move (.tmp 17), 3, "zsortanyfunc.go:422", #[{ on := 15, ground := Ground.gcOnly Departure.lateStores }], none⟩) (v := ?_) rfl (by kernel_rfl) (by rfl) (fun _ _ _ h => h) ?h hHeld ?_; case h => (intro W hSW; go_simp <;> with_reducible rfl))
     try simp only [lays]
     (refine Go.Proofs.YtbfepgjeecndiaaGreat.wr 4 (oi := ⟨some 117, .binOp .sub 3 (.tmp 116) (.const (.int .i64 1)) 3, 3, "zsortanyfunc.go:422", #[⟨3, .data⟩, { on := 15, ground := Ground.gcOnly Departure.lateStores }], none⟩) (v := ?_) rfl (by kernel_rfl) (by rfl) (fun _ _ _ h => h) ?h hHeld ?_; case h => (intro W hSW; go_simp <;> with_reducible rfl))
     try simp only [lays]
     (refine Go.Proofs.YtbfepgjeecndiaaGreat.wr 5 (oi := ⟨some 118, .move (.tmp 0), 22, "zsortanyfunc.go:422", #[], none⟩) (v := ?_) rfl (by kernel_rfl) (by rfl) (fun _ _ _ h => h) ?h hHeld ?_; case h => (intro W hSW; go_simp <;> with_reducible rfl))
     try simp only [lays]
     (refine Go.Proofs.YtbfepgjeecndiaaGreat.wr 6 (oi := ⟨some 119, .move (.tmp 17), 3, "zsortanyfunc.go:422", #[], none⟩) (v := ?_) rfl (by kernel_rfl) (by rfl) (fun _ _ _ h => h) ?h hHeld ?_; case h => (intro W hSW; go_simp <;> with_reducible rfl))
     try simp only [lays]
     (refine Go.Proofs.YtbfepgjeecndiaaGreat.wr 7 (oi := ⟨some 120, .binOp .sub 3 (.tmp 119) (.const (.int .i64 1)) 3, 3, "zsortanyfunc.go:422", #[⟨6, .data⟩], none⟩) (v := ?_) rfl (by kernel_rfl) (by rfl) (fun _ _ _ h => h) ?h hHeld ?_; case h => (intro W hSW; go_simp <;> with_reducible rfl))
     try simp only [lays]
     (refine Go.Proofs.YtbfepgjeecndiaaGreat.wr 8 (oi := ⟨some 121, .indexAddr 22 (.tmp 118) (.tmp 120), 0, "zsortanyfunc.go:422", #[⟨5, .data⟩, ⟨7, .data⟩], none⟩) (v := ?_) rfl (by kernel_rfl) (by rfl) (fun _ _ _ h => h) ?h hHeld ?_; case h => (intro W hSW; go_simp <;> with_reducible rfl))
     try simp only [lays]
     (refine Go.Proofs.YtbfepgjeecndiaaGreat.wr 10 (oi := ⟨some 123, .move (.tmp 0), 22, "zsortanyfunc.go:422", #[], none⟩) (v := ?_) rfl (by kernel_rfl) (by rfl) (fun _ _ _ h => h) ?h hHeld ?_; case h => (intro W hSW; go_simp <;> with_reducible rfl))
     try simp only [lays]
     (refine Go.Proofs.YtbfepgjeecndiaaGreat.wr 11 (oi := ⟨some 124, .move (.tmp 17), 3, "zsortanyfunc.go:422", #[], none⟩) (v := ?_) rfl (by kernel_rfl) (by rfl) (fun _ _ _ h => h) ?h hHeld ?_; case h => (intro W hSW; go_simp <;> with_reducible rfl))
     try simp only [lays]
     (refine Go.Proofs.YtbfepgjeecndiaaGreat.wr 12 (oi := ⟨some 125, .indexAddr 22 (.tmp 123) (.tmp 124), 0, "zsortanyfunc.go:422", #[⟨10, .data⟩, ⟨11, .data⟩], none⟩) (v := ?_) rfl (by kernel_rfl) (by rfl) (fun _ _ _ h => h) ?h hHeld ?_; case h => (intro W hSW; go_simp <;> with_reducible rfl))
     try simp only [lays]
     refine wpAnyH_ready (rs := [9, 13]) (by kernel_rfl) (by simp) ?_
     refine (AllReadyH.cons (o := ⟨some 122, .load 48 (.tmp 121), 48, "zsortanyfunc.go:422", #[⟨8, .data⟩], none⟩) rfl (fun K hK => ?ka11_23_12_9) (AllReadyH.cons (o := ⟨some 126, .load 48 (.tmp 125), 48, "zsortanyfunc.go:422", #[⟨12, .data⟩], none⟩) rfl (fun K hK => ?ka11_23_12_13) AllReadyH.nil))
     case' ka11_23_12_9 =>
      (refine step_loadSg rfl (.tmp 121) (by rfl) g (k1 * 23) (by rfl) T l2 vy HVY.out ?_)
      refine hK.out _ _ (trivial) (fun hHeld => ?_)
      clear hK K
      try simp only [lays]
      refine wpAnyH_ready (rs := [13]) (by kernel_rfl) (by simp) ?_
      refine (AllReadyH.cons (o := ⟨some 126, .load 48 (.tmp 125), 48, "zsortanyfunc.go:422", #[⟨12, .data⟩], none⟩) rfl (fun K hK => ?_) AllReadyH.nil)
      (refine step_loadSg rfl (.tmp 125) (by rfl) g (k * 23) (by rfl) R l1 vx HVX.out ?_)
      refine hK.out _ _ (trivial) (fun hHeld => ?_)
      clear hK K
      try simp only [lays]
      (refine Go.Proofs.YtbfepgjeecndiaaGreat.wr 14 (oi := ⟨some 127, .indexAddr 22 (.tmp 113) (.tmp 114), 0, "zsortanyfunc.go:422", #[⟨0, .data⟩, ⟨1, .data⟩, ⟨0, .phase⟩, ⟨1, .phase⟩, { on := 2, ground := Ground.textOnly Departure.lateStores }, { on := 3, ground := Ground.textOnly Departure.lateStores }, { on := 4, ground := Ground.textOnly Departure.lateStores }, ⟨5, .phase⟩, ⟨6, .phase⟩, ⟨7, .phase⟩, ⟨8, .phase⟩, ⟨9, .phase⟩, { on := 10, ground := Ground.textOnly Departure.lateStores }, { on := 11, ground := Ground.textOnly Departure.lateStores }, { on := 12, ground := Ground.textOnly Departure.lateStoresUnsure }, ⟨13, .phase⟩], none⟩) (v := ?_) rfl (by kernel_rfl) (by rfl) (fun _ _ _ h => h) ?h hHeld ?_; case h => (intro W hSW; go_simp <;> with_reducible rfl))
      try simp only [lays]
      refine wpAnyH_ready (rs := [15]) (by kernel_rfl) (by simp) ?_
      refine (AllReadyH.cons (o := ⟨none, .store 48 (.tmp 127) (.tmp 122), 0, "zsortanyfunc.go:422", #[⟨14, .data⟩, ⟨9, .data⟩, ⟨0, .phase⟩, ⟨1, .phase⟩, { on := 2, ground := Ground.textOnly Departure.lateStores }, { on := 3, ground := Ground.textOnly Departure.lateStores }, { on := 4, ground := Ground.textOnly Departure.lateStores }, ⟨5, .phase⟩, ⟨6, .phase⟩, ⟨7, .phase⟩, ⟨8, .phase⟩, ⟨9, .phase⟩, { on := 10, ground := Ground.textOnly Departure.lateStores }, { on := 11, ground := Ground.textOnly Departure.lateStores }, { on := 12, ground := Ground.textOnly Departure.lateStoresUnsure }, ⟨13, .phase⟩], none⟩) rfl (fun K hK => ?_) AllReadyH.nil)
      (refine step_storeSg rfl (.tmp 127) (.tmp 122) (by rfl) g (k * 23) (by rfl) T vy HVY.out (by rfl) t1 ?_)
      refine hK.out _ _ (trivial) (fun hHeld => ?_)
      clear hK K
      try simp only [lays]
      (refine Go.Proofs.YtbfepgjeecndiaaGreat.wr 16 (oi := ⟨some 128, .indexAddr 22 (.tmp 115) (.tmp 117), 0, "zsortanyfunc.go:422", #[⟨2, .data⟩, ⟨4, .data⟩, ⟨0, .phase⟩, ⟨1, .phase⟩, ⟨2, .phase⟩, ⟨3, .phase⟩, ⟨4, .phase⟩, ⟨5, .phase⟩, ⟨6, .phase⟩, ⟨7, .phase⟩, ⟨8, .phase⟩, ⟨9, .phase⟩, ⟨10, .phase⟩, ⟨11, .phase⟩, ⟨12, .phase⟩, ⟨13, .phase⟩, ⟨14, .phase⟩, ⟨15, .phase⟩], none⟩) (v := ?_) rfl (by kernel_rfl) (by rfl) (fun _ _ _ h => h) ?h hHeld ?_; case h => (intro W hSW; go_simp <;> with_reducible rfl))
      try simp only [lays]
      refine wpAnyH_ready (rs := [17]) (by kernel_rfl) (by simp) ?_
      refine (AllReadyH.cons (o := ⟨none, .store 48 (.tmp 128) (.tmp 126), 0, "zsortanyfunc.go:422", #[⟨16, .data⟩, ⟨13, .data⟩, ⟨15, .chain⟩, ⟨0, .phase⟩, ⟨1, .phase⟩, ⟨2, .phase⟩, ⟨3, .phase⟩, ⟨4, .phase⟩, ⟨5, .phase⟩, ⟨6, .phase⟩, ⟨7, .phase⟩, ⟨8, .phase⟩, ⟨9, .phase⟩, ⟨10, .phase⟩, ⟨11, .phase⟩, ⟨12, .phase⟩, ⟨13, .phase⟩, ⟨14, .phase⟩, ⟨15, .phase⟩], none⟩) rfl (fun K hK => ?_) AllReadyH.nil)
      (refine step_storeSg rfl (.tmp 128) (.tmp 126) (by rfl) g (k1 * 23) (by rfl) R vx HVX.out (by rfl) t2 ?_)
      refine hK.out _ _ (trivial) (fun hHeld => ?_)
      clear hK K
      try simp only [lays]
      refine wpAnyH_done (by kernel_rfl) ?_ _
     case' ka11_23_12_13 =>
      (refine step_loadSg rfl (.tmp 125) (by rfl) g (k * 23) (by rfl) R l1 vx HVX.out ?_)
      refine hK.out _ _ (trivial) (fun hHeld => ?_)
      clear hK K
      try simp only [lays]
      refine wpAnyH_ready (rs := [9]) (by kernel_rfl) (by simp) ?_
      refine (AllReadyH.cons (o := ⟨some 122, .load 48 (.tmp 121), 48, "zsortanyfunc.go:422", #[⟨8, .data⟩], none⟩) rfl (fun K hK => ?_) AllReadyH.nil)
      (refine step_loadSg rfl (.tmp 121) (by rfl) g (k1 * 23) (by rfl) T l2 vy HVY.out ?_)
      refine hK.out _ _ (trivial) (fun hHeld => ?_)
      clear hK K
      try simp only [lays]
      (refine Go.Proofs.YtbfepgjeecndiaaGreat.wr 14 (oi := ⟨some 127, .indexAddr 22 (.tmp 113) (.tmp 114), 0, "zsortanyfunc.go:422", #[⟨0, .data⟩, ⟨1, .data⟩, ⟨0, .phase⟩, ⟨1, .phase⟩, { on := 2, ground := Ground.textOnly Departure.lateStores }, { on := 3, ground := Ground.textOnly Departure.lateStores }, { on := 4, ground := Ground.textOnly Departure.lateStores }, ⟨5, .phase⟩, ⟨6, .phase⟩, ⟨7, .phase⟩, ⟨8, .phase⟩, ⟨9, .phase⟩, { on := 10, ground := Ground.textOnly Departure.lateStores }, { on := 11, ground := Ground.textOnly Departure.lateStores }, { on := 12, ground := Ground.textOnly Departure.lateStoresUnsure }, ⟨13, .phase⟩], none⟩) (v := ?_) rfl (by kernel_rfl) (by rfl) (fun _ _ _ h => h) ?h hHeld ?_; case h => (intro W hSW; go_simp <;> with_reducible rfl))
      try simp only [lays]
      refine wpAnyH_ready (rs := [15]) (by kernel_rfl) (by simp) ?_
      refine (AllReadyH.cons (o := ⟨none, .store 48 (.tmp 127) (.tmp 122), 0, "zsortanyfunc.go:422", #[⟨14, .data⟩, ⟨9, .data⟩, ⟨0, .phase⟩, ⟨1, .phase⟩, { on := 2, ground := Ground.textOnly Departure.lateStores }, { on := 3, ground := Ground.textOnly Departure.lateStores }, { on := 4, ground := Ground.textOnly Departure.lateStores }, ⟨5, .phase⟩, ⟨6, .phase⟩, ⟨7, .phase⟩, ⟨8, .phase⟩, ⟨9, .phase⟩, { on := 10, ground := Ground.textOnly Departure.lateStores }, { on := 11, ground := Ground.textOnly Departure.lateStores }, { on := 12, ground := Ground.textOnly Departure.lateStoresUnsure }, ⟨13, .phase⟩], none⟩) rfl (fun K hK => ?_) AllReadyH.nil)
      (refine step_storeSg rfl (.tmp 127) (.tmp 122) (by rfl) g (k * 23) (by rfl) T vy HVY.out (by rfl) t1 ?_)
      refine hK.out _ _ (trivial) (fun hHeld => ?_)
      clear hK K
      try simp only [lays]
      (refine Go.Proofs.YtbfepgjeecndiaaGreat.wr 16 (oi := ⟨some 128, .indexAddr 22 (.tmp 115) (.tmp 117), 0, "zsortanyfunc.go:422", #[⟨2, .data⟩, ⟨4, .data⟩, ⟨0, .phase⟩, ⟨1, .phase⟩, ⟨2, .phase⟩, ⟨3, .phase⟩, ⟨4, .phase⟩, ⟨5, .phase⟩, ⟨6, .phase⟩, ⟨7, .phase⟩, ⟨8, .phase⟩, ⟨9, .phase⟩, ⟨10, .phase⟩, ⟨11, .phase⟩, ⟨12, .phase⟩, ⟨13, .phase⟩, ⟨14, .phase⟩, ⟨15, .phase⟩], none⟩) (v := ?_) rfl (by kernel_rfl) (by rfl) (fun _ _ _ h => h) ?h hHeld ?_; case h => (intro W hSW; go_simp <;> with_reducible rfl))
      try simp only [lays]
      refine wpAnyH_ready (rs := [17]) (by kernel_rfl) (by simp) ?_
      refine (AllReadyH.cons (o := ⟨none, .store 48 (.tmp 128) (.tmp 126), 0, "zsortanyfunc.go:422", #[⟨16, .data⟩, ⟨13, .data⟩, ⟨15, .chain⟩, ⟨0, .phase⟩, ⟨1, .phase⟩, ⟨2, .phase⟩, ⟨3, .phase⟩, ⟨4, .phase⟩, ⟨5, .phase⟩, ⟨6, .phase⟩, ⟨7, .phase⟩, ⟨8, .phase⟩, ⟨9, .phase⟩, ⟨10, .phase⟩, ⟨11, .phase⟩, ⟨12, .phase⟩, ⟨13, .phase⟩, ⟨14, .phase⟩, ⟨15, .phase⟩], none⟩) rfl (fun K hK => ?_) AllReadyH.nil)
      (refine step_storeSg rfl (.tmp 128) (.tmp 126) (by rfl) g (k1 * 23) (by rfl) R vx HVX.out (by rfl) t2 ?_)
      refine hK.out _ _ (trivial) (fun hHeld => ?_)
      clear hK K
      try simp only [lays]
      refine wpAnyH_done (by kernel_rfl) ?_ _
     all_goals (
      have HD8 := Lib.hid HX2.out
      have HR8 := Lib.hid (show Rot k1 m (m + 1) d (Sort.swp dk k k1) from by have := HR.out; rw [HK.out] at this ⊢; exact this.down (by have := HK.out; omega) (by rw [HSZ.out]; omega))
      generalize (wr.drew.setCells g (k * 23) (sgL T)).setCells g (k1 * 23) (sgL R) = W8 at HD8 ⊢
      clear HX2 HD t1 t2 l1 l2 hHeld kw k1w
      go_wp2_with fail
      go_roundw
      case rel => exact ⟨k1, _, by go_num, by have := HK.out; omega, by have := HK.out; omega, HR8, HD8⟩
      case measure => simp [intOf]; have := HK.out; omega)
    ·have i2 : ¬ (j : Int) < (k : Int) := by omega
     obtain rfl : k = j := by omega
     go_wp2_with fail
     (try simp only [Exit.inBlock, Exit.then]); refine bodyPost_ret (results_none rfl _ _ _) rfl ?_
     have hR := HR.out
     have hM := HM.out
     subst hM
     exact ⟨rfl, dk, HD.out, Sort.permIn_mono _ _ _ _ _ _ hmi (Nat.le_refl _) (by rw [HSZ.out]; exact hb) (hR.perm hkm (Nat.le_succ m) (by rw [HSZ.out]; omega)), ins_right ltSg_swo hmi hkm HS.out HI.out HJ.out hR⟩
end Go.Proofs.YtbfepgjeecndiaaGreat
