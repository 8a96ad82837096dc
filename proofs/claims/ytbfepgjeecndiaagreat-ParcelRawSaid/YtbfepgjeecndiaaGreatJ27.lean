/- Ranges of signed votes exchanged and rotated (slices' swapRangeCmpFunc, rotateCmpFunc). -/
import Derived.Test.YtbfepgjeecndiaaGreatJ18
namespace Go.Proofs.YtbfepgjeecndiaaGreat
set_option maxRecDepth 100000
set_option maxHeartbeats 8000000
open Go.RowKit
set_option linter.unusedVariables false
set_option linter.unusedSimpArgs false
attribute [local go_sem ↓] Go.wp_at_zero Go.wp_at_succ
theorem swapRange_any (fv : Value) (w0 w : World) (base : Nat) (A : Option Addr) (n c : Nat) (d : Array SgR) (h : RowV w0 w base A n c d) (a b k : Nat) (hab : a + k ≤ b) (hb : b + k ≤ n) (hn : n ≤ 1000000000) (hc : c ≤ 9223372036854775807) :
  Calls Tryz.prog 124 #[.slice A n c, .int .i64 a, .int .i64 b, .int .i64 k, fv] w fun e w' => e = .returned (.tuple #[]) ∧ ∃ d', RowV w0 w' base A n c d' ∧ Swr a b k d d' := by
 have HD0 := Lib.hid h
 have HSZ := Lib.hid (RowS.size h)
 have HSW0 := Lib.hid (Swr.zero a b d)
 clear h
 go_enter Tryz.func124, Tryz.ntmps124
 go_wp2_with fail
 go_loopw [10] (fun i wr => ∃ (j : Nat) (dk : Array SgR), j ≤ k ∧ i = .int .i64 (j : Int) ∧ Hid (Swr a b j d dk) ∧ Hid (RowV w0 wr base A n c dk)) (fun i _ => k - (intOf i).toNat)
 case atStart => exact ⟨0, d, Nat.zero_le _, rfl, HSW0, HD0⟩
 case round =>
  clear HD0 HSW0
  obtain ⟨j, dk, hj, rfl, HSW, HD⟩ := hrel
  by_cases hlt : j < k
  ·have i1 : (j : Int) < (k : Int) := by omega
   obtain ⟨p, hp⟩ : ∃ p, p = a + j := ⟨_, rfl⟩
   obtain ⟨q, hq⟩ : ∃ q, q = b + j := ⟨_, rfl⟩
   have HP := Lib.hid hp
   have HQ := Lib.hid hq
   have p0 : (a : Int) + (j : Int) = (p : Int) := by omega
   have q0 : (b : Int) + (j : Int) = (q : Int) := by omega
   have hpn : p < n := by omega
   have hqn : q < n := by omega
   have p1 : (p : Int) < (n : Int) := by omega
   have q1 : (q : Int) < (n : Int) := by omega
   have pw : IntKind.i64.wrap (p : Int) = (p : Int) := by rw [IntKind.wrap_i64]; omega
   have qw : IntKind.i64.wrap (q : Int) = (q : Int) := by rw [IntKind.wrap_i64]; omega
   obtain ⟨g, hA, -, -⟩ := HD.out.at (by omega)
   have HA := Lib.hid hA
   subst hA
   clear hp hq
   obtain ⟨R, hR⟩ : ∃ R, dk[p]! = R := ⟨_, rfl⟩
   obtain ⟨T, hT⟩ : ∃ R, dk[q]! = R := ⟨_, rfl⟩
   obtain ⟨vx, hvx⟩ : ∃ v, Value.agg (sgA R) = v := ⟨_, rfl⟩
   obtain ⟨vy, hvy⟩ : ∃ v, Value.agg (sgA T) = v := ⟨_, rfl⟩
   have HVX := Lib.hid hvx
   have HVY := Lib.hid hvy
   obtain ⟨l1, l2, t1, t2, hx2⟩ := RowV.xchg HD.out rfl hpn hqn hR hT wr.drew rfl
   have HX2 := Lib.hid hx2
   clear hvx hvy hR hT hx2
   go_wp2_with fail
   refine wp_region_held_drew (S := fun _ => True) (by kernel_rfl) (trivial) (fun hHeld => ?_)
   (refine Go.Proofs.YtbfepgjeecndiaaGreat.wr 0 (oi := ⟨some 16, .move (.tmp 0), 22, "zsortanyfunc.go:331", #[], none⟩) (v := ?_) rfl (by kernel_rfl) (by rfl) (fun _ _ _ h => h) ?h hHeld ?_; case h => (intro W hSW; go_simp <;> with_reducible rfl))
   try simp only [lays]
   (refine Go.Proofs.YtbfepgjeecndiaaGreat.wr 1 (oi := ⟨some 17, .move (.tmp 1), 3, "zsortanyfunc.go:331", #[], none⟩) (v := ?_) rfl (by kernel_rfl) (by rfl) (fun _ _ _ h => h) ?h hHeld ?_; case h => (intro W hSW; go_simp <;> with_reducible rfl))
   try simp only [lays]
   (refine Go.Proofs.YtbfepgjeecndiaaGreat.wr 2 (oi := ⟨some 18, .move (.tmp 10), 3, "zsortanyfunc.go:331", #[], none⟩) (v := ?_) rfl (by kernel_rfl) (by rfl) (fun _ _ _ h => h) ?h hHeld ?_; case h => (intro W hSW; go_simp <;> with_reducible rfl))
   try simp only [lays]
   (refine Go.Proofs.YtbfepgjeecndiaaGreat.wr 3 (oi := ⟨some 19, .binOp .add 3 (.tmp 17) (.tmp 18) 3, 3, "zsortanyfunc.go:331", #[⟨1, .data⟩, ⟨2, .data⟩], none⟩) (v := ?_) rfl (by kernel_rfl) (by rfl) (fun _ _ _ h => h) ?h hHeld ?_; case h => (intro W hSW; go_simp <;> with_reducible rfl))
   try simp only [lays]
   (refine Go.Proofs.YtbfepgjeecndiaaGreat.wr 4 (oi := ⟨some 20, .move (.tmp 0), 22, "zsortanyfunc.go:331", #[{ on := 21, ground := Ground.gcOnly Departure.lateStores }], none⟩) (v := ?_) rfl (by kernel_rfl) (by rfl) (fun _ _ _ h => h) ?h hHeld ?_; case h => (intro W hSW; go_simp <;> with_reducible rfl))
   try simp only [lays]
   (refine Go.Proofs.YtbfepgjeecndiaaGreat.wr 5 (oi := ⟨some 21, .move (.tmp 2), 3, "zsortanyfunc.go:331", #[{ on := 21, ground := Ground.gcOnly Departure.lateStores }], none⟩) (v := ?_) rfl (by kernel_rfl) (by rfl) (fun _ _ _ h => h) ?h hHeld ?_; case h => (intro W hSW; go_simp <;> with_reducible rfl))
   try simp only [lays]
   (refine Go.Proofs.YtbfepgjeecndiaaGreat.wr 6 (oi := ⟨some 22, .move (.tmp 10), 3, "zsortanyfunc.go:331", #[{ on := 21, ground := Ground.gcOnly Departure.lateStores }], none⟩) (v := ?_) rfl (by kernel_rfl) (by rfl) (fun _ _ _ h => h) ?h hHeld ?_; case h => (intro W hSW; go_simp <;> with_reducible rfl))
   try simp only [lays]
   (refine Go.Proofs.YtbfepgjeecndiaaGreat.wr 7 (oi := ⟨some 23, .binOp .add 3 (.tmp 21) (.tmp 22) 3, 3, "zsortanyfunc.go:331", #[⟨5, .data⟩, ⟨6, .data⟩, { on := 21, ground := Ground.gcOnly Departure.lateStores }], none⟩) (v := ?_) rfl (by kernel_rfl) (by rfl) (fun _ _ _ h => h) ?h hHeld ?_; case h => (intro W hSW; go_simp <;> with_reducible rfl))
   try simp only [lays]
   (refine Go.Proofs.YtbfepgjeecndiaaGreat.wr 8 (oi := ⟨some 24, .move (.tmp 0), 22, "zsortanyfunc.go:331", #[], none⟩) (v := ?_) rfl (by kernel_rfl) (by rfl) (fun _ _ _ h => h) ?h hHeld ?_; case h => (intro W hSW; go_simp <;> with_reducible rfl))
   try simp only [lays]
   (refine Go.Proofs.YtbfepgjeecndiaaGreat.wr 9 (oi := ⟨some 25, .move (.tmp 2), 3, "zsortanyfunc.go:331", #[], none⟩) (v := ?_) rfl (by kernel_rfl) (by rfl) (fun _ _ _ h => h) ?h hHeld ?_; case h => (intro W hSW; go_simp <;> with_reducible rfl))
   try simp only [lays]
   (refine Go.Proofs.YtbfepgjeecndiaaGreat.wr 10 (oi := ⟨some 26, .move (.tmp 10), 3, "zsortanyfunc.go:331", #[], none⟩) (v := ?_) rfl (by kernel_rfl) (by rfl) (fun _ _ _ h => h) ?h hHeld ?_; case h => (intro W hSW; go_simp <;> with_reducible rfl))
   try simp only [lays]
   (refine Go.Proofs.YtbfepgjeecndiaaGreat.wr 11 (oi := ⟨some 27, .binOp .add 3 (.tmp 25) (.tmp 26) 3, 3, "zsortanyfunc.go:331", #[⟨9, .data⟩, ⟨10, .data⟩], none⟩) (v := ?_) rfl (by kernel_rfl) (by rfl) (fun _ _ _ h => h) ?h hHeld ?_; case h => (intro W hSW; go_simp <;> with_reducible rfl))
   try simp only [lays]
   (refine Go.Proofs.YtbfepgjeecndiaaGreat.wr 12 (oi := ⟨some 28, .indexAddr 22 (.tmp 24) (.tmp 27), 0, "zsortanyfunc.go:331", #[⟨8, .data⟩, ⟨11, .data⟩], none⟩) (v := ?_) rfl (by kernel_rfl) (by rfl) (fun _ _ _ h => h) ?h hHeld ?_; case h => (intro W hSW; go_simp <;> with_reducible rfl))
   try simp only [lays]
   (refine Go.Proofs.YtbfepgjeecndiaaGreat.wr 14 (oi := ⟨some 30, .move (.tmp 0), 22, "zsortanyfunc.go:331", #[], none⟩) (v := ?_) rfl (by kernel_rfl) (by rfl) (fun _ _ _ h => h) ?h hHeld ?_; case h => (intro W hSW; go_simp <;> with_reducible rfl))
   try simp only [lays]
   (refine Go.Proofs.YtbfepgjeecndiaaGreat.wr 15 (oi := ⟨some 31, .move (.tmp 1), 3, "zsortanyfunc.go:331", #[], none⟩) (v := ?_) rfl (by kernel_rfl) (by rfl) (fun _ _ _ h => h) ?h hHeld ?_; case h => (intro W hSW; go_simp <;> with_reducible rfl))
   try simp only [lays]
   (refine Go.Proofs.YtbfepgjeecndiaaGreat.wr 16 (oi := ⟨some 32, .move (.tmp 10), 3, "zsortanyfunc.go:331", #[], none⟩) (v := ?_) rfl (by kernel_rfl) (by rfl) (fun _ _ _ h => h) ?h hHeld ?_; case h => (intro W hSW; go_simp <;> with_reducible rfl))
   try simp only [lays]
   (refine Go.Proofs.YtbfepgjeecndiaaGreat.wr 17 (oi := ⟨some 33, .binOp .add 3 (.tmp 31) (.tmp 32) 3, 3, "zsortanyfunc.go:331", #[⟨15, .data⟩, ⟨16, .data⟩], none⟩) (v := ?_) rfl (by kernel_rfl) (by rfl) (fun _ _ _ h => h) ?h hHeld ?_; case h => (intro W hSW; go_simp <;> with_reducible rfl))
   try simp only [lays]
   (refine Go.Proofs.YtbfepgjeecndiaaGreat.wr 18 (oi := ⟨some 34, .indexAddr 22 (.tmp 30) (.tmp 33), 0, "zsortanyfunc.go:331", #[⟨14, .data⟩, ⟨17, .data⟩], none⟩) (v := ?_) rfl (by kernel_rfl) (by rfl) (fun _ _ _ h => h) ?h hHeld ?_; case h => (intro W hSW; go_simp <;> with_reducible rfl))
   try simp only [lays]
   refine wpAnyH_ready (rs := [13, 19]) (by kernel_rfl) (by simp) ?_
   refine (AllReadyH.cons (o := ⟨some 29, .load 48 (.tmp 28), 48, "zsortanyfunc.go:331", #[⟨12, .data⟩], none⟩) rfl (fun K hK => ?ka1_3_18_13) (AllReadyH.cons (o := ⟨some 35, .load 48 (.tmp 34), 48, "zsortanyfunc.go:331", #[⟨18, .data⟩], none⟩) rfl (fun K hK => ?ka1_3_18_19) AllReadyH.nil))
   case' ka1_3_18_13 =>
    (refine step_loadSg rfl (.tmp 28) (by rfl) g (q * 23) (by rfl) T l2 vy HVY.out ?_)
    refine hK.out _ _ (trivial) (fun hHeld => ?_)
    clear hK K
    try simp only [lays]
    refine wpAnyH_ready (rs := [19]) (by kernel_rfl) (by simp) ?_
    refine (AllReadyH.cons (o := ⟨some 35, .load 48 (.tmp 34), 48, "zsortanyfunc.go:331", #[⟨18, .data⟩], none⟩) rfl (fun K hK => ?_) AllReadyH.nil)
    (refine step_loadSg rfl (.tmp 34) (by rfl) g (p * 23) (by rfl) R l1 vx HVX.out ?_)
    refine hK.out _ _ (trivial) (fun hHeld => ?_)
    clear hK K
    try simp only [lays]
    (refine Go.Proofs.YtbfepgjeecndiaaGreat.wr 20 (oi := ⟨some 36, .indexAddr 22 (.tmp 16) (.tmp 19), 0, "zsortanyfunc.go:331", #[⟨0, .data⟩, ⟨3, .data⟩, ⟨0, .phase⟩, ⟨1, .phase⟩, ⟨2, .phase⟩, ⟨3, .phase⟩, { on := 4, ground := Ground.textOnly Departure.lateStores }, { on := 5, ground := Ground.textOnly Departure.lateStores }, { on := 6, ground := Ground.textOnly Departure.lateStores }, { on := 7, ground := Ground.textOnly Departure.lateStores }, ⟨8, .phase⟩, ⟨9, .phase⟩, ⟨10, .phase⟩, ⟨11, .phase⟩, ⟨12, .phase⟩, ⟨13, .phase⟩, { on := 14, ground := Ground.textOnly Departure.lateStores }, { on := 15, ground := Ground.textOnly Departure.lateStores }, { on := 16, ground := Ground.textOnly Departure.lateStores }, { on := 17, ground := Ground.textOnly Departure.lateStores }, { on := 18, ground := Ground.textOnly Departure.lateStoresUnsure }, ⟨19, .phase⟩], none⟩) (v := ?_) rfl (by kernel_rfl) (by rfl) (fun _ _ _ h => h) ?h hHeld ?_; case h => (intro W hSW; go_simp <;> with_reducible rfl))
    try simp only [lays]
    refine wpAnyH_ready (rs := [21]) (by kernel_rfl) (by simp) ?_
    refine (AllReadyH.cons (o := ⟨none, .store 48 (.tmp 36) (.tmp 29), 0, "zsortanyfunc.go:331", #[⟨20, .data⟩, ⟨13, .data⟩, ⟨0, .phase⟩, ⟨1, .phase⟩, ⟨2, .phase⟩, ⟨3, .phase⟩, { on := 4, ground := Ground.textOnly Departure.lateStores }, { on := 5, ground := Ground.textOnly Departure.lateStores }, { on := 6, ground := Ground.textOnly Departure.lateStores }, { on := 7, ground := Ground.textOnly Departure.lateStores }, ⟨8, .phase⟩, ⟨9, .phase⟩, ⟨10, .phase⟩, ⟨11, .phase⟩, ⟨12, .phase⟩, ⟨13, .phase⟩, { on := 14, ground := Ground.textOnly Departure.lateStores }, { on := 15, ground := Ground.textOnly Departure.lateStores }, { on := 16, ground := Ground.textOnly Departure.lateStores }, { on := 17, ground := Ground.textOnly Departure.lateStores }, { on := 18, ground := Ground.textOnly Departure.lateStoresUnsure }, ⟨19, .phase⟩], none⟩) rfl (fun K hK => ?_) AllReadyH.nil)
    (refine step_storeSg rfl (.tmp 36) (.tmp 29) (by rfl) g (p * 23) (by rfl) T vy HVY.out (by rfl) t1 ?_)
    refine hK.out _ _ (trivial) (fun hHeld => ?_)
    clear hK K
    try simp only [lays]
    (refine Go.Proofs.YtbfepgjeecndiaaGreat.wr 22 (oi := ⟨some 37, .indexAddr 22 (.tmp 20) (.tmp 23), 0, "zsortanyfunc.go:331", #[⟨4, .data⟩, ⟨7, .data⟩, ⟨0, .phase⟩, ⟨1, .phase⟩, ⟨2, .phase⟩, ⟨3, .phase⟩, ⟨4, .phase⟩, ⟨5, .phase⟩, ⟨6, .phase⟩, ⟨7, .phase⟩, ⟨8, .phase⟩, ⟨9, .phase⟩, ⟨10, .phase⟩, ⟨11, .phase⟩, ⟨12, .phase⟩, ⟨13, .phase⟩, ⟨14, .phase⟩, ⟨15, .phase⟩, ⟨16, .phase⟩, ⟨17, .phase⟩, ⟨18, .phase⟩, ⟨19, .phase⟩, ⟨20, .phase⟩, ⟨21, .phase⟩], none⟩) (v := ?_) rfl (by kernel_rfl) (by rfl) (fun _ _ _ h => h) ?h hHeld ?_; case h => (intro W hSW; go_simp <;> with_reducible rfl))
    try simp only [lays]
    refine wpAnyH_ready (rs := [23]) (by kernel_rfl) (by simp) ?_
    refine (AllReadyH.cons (o := ⟨none, .store 48 (.tmp 37) (.tmp 35), 0, "zsortanyfunc.go:331", #[⟨22, .data⟩, ⟨19, .data⟩, ⟨21, .chain⟩, ⟨0, .phase⟩, ⟨1, .phase⟩, ⟨2, .phase⟩, ⟨3, .phase⟩, ⟨4, .phase⟩, ⟨5, .phase⟩, ⟨6, .phase⟩, ⟨7, .phase⟩, ⟨8, .phase⟩, ⟨9, .phase⟩, ⟨10, .phase⟩, ⟨11, .phase⟩, ⟨12, .phase⟩, ⟨13, .phase⟩, ⟨14, .phase⟩, ⟨15, .phase⟩, ⟨16, .phase⟩, ⟨17, .phase⟩, ⟨18, .phase⟩, ⟨19, .phase⟩, ⟨20, .phase⟩, ⟨21, .phase⟩], none⟩) rfl (fun K hK => ?_) AllReadyH.nil)
    (refine step_storeSg rfl (.tmp 37) (.tmp 35) (by rfl) g (q * 23) (by rfl) R vx HVX.out (by rfl) t2 ?_)
    refine hK.out _ _ (trivial) (fun hHeld => ?_)
    clear hK K
    try simp only [lays]
    refine wpAnyH_done (by kernel_rfl) ?_ _
   case' ka1_3_18_19 =>
    (refine step_loadSg rfl (.tmp 34) (by rfl) g (p * 23) (by rfl) R l1 vx HVX.out ?_)
    refine hK.out _ _ (trivial) (fun hHeld => ?_)
    clear hK K
    try simp only [lays]
    refine wpAnyH_ready (rs := [13]) (by kernel_rfl) (by simp) ?_
    refine (AllReadyH.cons (o := ⟨some 29, .load 48 (.tmp 28), 48, "zsortanyfunc.go:331", #[⟨12, .data⟩], none⟩) rfl (fun K hK => ?_) AllReadyH.nil)
    (refine step_loadSg rfl (.tmp 28) (by rfl) g (q * 23) (by rfl) T l2 vy HVY.out ?_)
    refine hK.out _ _ (trivial) (fun hHeld => ?_)
    clear hK K
    try simp only [lays]
    (refine Go.Proofs.YtbfepgjeecndiaaGreat.wr 20 (oi := ⟨some 36, .indexAddr 22 (.tmp 16) (.tmp 19), 0, "zsortanyfunc.go:331", #[⟨0, .data⟩, ⟨3, .data⟩, ⟨0, .phase⟩, ⟨1, .phase⟩, ⟨2, .phase⟩, ⟨3, .phase⟩, { on := 4, ground := Ground.textOnly Departure.lateStores }, { on := 5, ground := Ground.textOnly Departure.lateStores }, { on := 6, ground := Ground.textOnly Departure.lateStores }, { on := 7, ground := Ground.textOnly Departure.lateStores }, ⟨8, .phase⟩, ⟨9, .phase⟩, ⟨10, .phase⟩, ⟨11, .phase⟩, ⟨12, .phase⟩, ⟨13, .phase⟩, { on := 14, ground := Ground.textOnly Departure.lateStores }, { on := 15, ground := Ground.textOnly Departure.lateStores }, { on := 16, ground := Ground.textOnly Departure.lateStores }, { on := 17, ground := Ground.textOnly Departure.lateStores }, { on := 18, ground := Ground.textOnly Departure.lateStoresUnsure }, ⟨19, .phase⟩], none⟩) (v := ?_) rfl (by kernel_rfl) (by rfl) (fun _ _ _ h => h) ?h hHeld ?_; case h => (intro W hSW; go_simp <;> with_reducible rfl))
    try simp only [lays]
    refine wpAnyH_ready (rs := [21]) (by kernel_rfl) (by simp) ?_
    refine (AllReadyH.cons (o := ⟨none, .store 48 (.tmp 36) (.tmp 29), 0, "zsortanyfunc.go:331", #[⟨20, .data⟩, ⟨13, .data⟩, ⟨0, .phase⟩, ⟨1, .phase⟩, ⟨2, .phase⟩, ⟨3, .phase⟩, { on := 4, ground := Ground.textOnly Departure.lateStores }, { on := 5, ground := Ground.textOnly Departure.lateStores }, { on := 6, ground := Ground.textOnly Departure.lateStores }, { on := 7, ground := Ground.textOnly Departure.lateStores }, ⟨8, .phase⟩, ⟨9, .phase⟩, ⟨10, .phase⟩, ⟨11, .phase⟩, ⟨12, .phase⟩, ⟨13, .phase⟩, { on := 14, ground := Ground.textOnly Departure.lateStores }, { on := 15, ground := Ground.textOnly Departure.lateStores }, { on := 16, ground := Ground.textOnly Departure.lateStores }, { on := 17, ground := Ground.textOnly Departure.lateStores }, { on := 18, ground := Ground.textOnly Departure.lateStoresUnsure }, ⟨19, .phase⟩], none⟩) rfl (fun K hK => ?_) AllReadyH.nil)
    (refine step_storeSg rfl (.tmp 36) (.tmp 29) (by rfl) g (p * 23) (by rfl) T vy HVY.out (by rfl) t1 ?_)
    refine hK.out _ _ (trivial) (fun hHeld => ?_)
    clear hK K
    try simp only [lays]
    (refine Go.Proofs.YtbfepgjeecndiaaGreat.wr 22 (oi := ⟨some 37, .indexAddr 22 (.tmp 20) (.tmp 23), 0, "zsortanyfunc.go:331", #[⟨4, .data⟩, ⟨7, .data⟩, ⟨0, .phase⟩, ⟨1, .phase⟩, ⟨2, .phase⟩, ⟨3, .phase⟩, ⟨4, .phase⟩, ⟨5, .phase⟩, ⟨6, .phase⟩, ⟨7, .phase⟩, ⟨8, .phase⟩, ⟨9, .phase⟩, ⟨10, .phase⟩, ⟨11, .phase⟩, ⟨12, .phase⟩, ⟨13, .phase⟩, ⟨14, .phase⟩, ⟨15, .phase⟩, ⟨16, .phase⟩, ⟨17, .phase⟩, ⟨18, .phase⟩, ⟨19, .phase⟩, ⟨20, .phase⟩, ⟨21, .phase⟩], none⟩) (v := ?_) rfl (by kernel_rfl) (by rfl) (fun _ _ _ h => h) ?h hHeld ?_; case h => (intro W hSW; go_simp <;> with_reducible rfl))
    try simp only [lays]
    refine wpAnyH_ready (rs := [23]) (by kernel_rfl) (by simp) ?_
    refine (AllReadyH.cons (o := ⟨none, .store 48 (.tmp 37) (.tmp 35), 0, "zsortanyfunc.go:331", #[⟨22, .data⟩, ⟨19, .data⟩, ⟨21, .chain⟩, ⟨0, .phase⟩, ⟨1, .phase⟩, ⟨2, .phase⟩, ⟨3, .phase⟩, ⟨4, .phase⟩, ⟨5, .phase⟩, ⟨6, .phase⟩, ⟨7, .phase⟩, ⟨8, .phase⟩, ⟨9, .phase⟩, ⟨10, .phase⟩, ⟨11, .phase⟩, ⟨12, .phase⟩, ⟨13, .phase⟩, ⟨14, .phase⟩, ⟨15, .phase⟩, ⟨16, .phase⟩, ⟨17, .phase⟩, ⟨18, .phase⟩, ⟨19, .phase⟩, ⟨20, .phase⟩, ⟨21, .phase⟩], none⟩) rfl (fun K hK => ?_) AllReadyH.nil)
    (refine step_storeSg rfl (.tmp 37) (.tmp 35) (by rfl) g (q * 23) (by rfl) R vx HVX.out (by rfl) t2 ?_)
    refine hK.out _ _ (trivial) (fun hHeld => ?_)
    clear hK K
    try simp only [lays]
    refine wpAnyH_done (by kernel_rfl) ?_ _
   all_goals (
    have HD8 := Lib.hid HX2.out
    have HSW8 := Lib.hid (show Swr a b (j + 1) d (Sort.swp dk p q) from by rw [HP.out, HQ.out]; exact HSW.out.step (by omega) (by rw [HSZ.out]; omega))
    generalize (wr.drew.setCells g (p * 23) (sgL T)).setCells g (q * 23) (sgL R) = W8 at HD8 ⊢
    clear HX2 HD HSW t1 t2 l1 l2 p0 q0 p1 q1 hpn hqn hHeld pw qw
    go_wp2_with fail
    go_roundw
    case rel => exact ⟨j + 1, _, by omega, by go_num, HSW8, HD8⟩
    case measure => simp [intOf]; omega)
  ·obtain rfl : j = k := by omega
   have i1 : ¬ (j : Int) < (j : Int) := by omega
   go_wp2_with fail
   go_end0
   exact ⟨rfl, dk, HD.out, HSW.out⟩
theorem rotate_any (fv : Value) (w0 w : World) (base : Nat) (A : Option Addr) (n c : Nat) (d : Array SgR) (h : RowV w0 w base A n c d) (a m b : Nat) (ham : a < m) (hmb : m < b) (hb : b ≤ n) (hn : n ≤ 1000000000) (hc : c ≤ 9223372036854775807) :
  Calls Tryz.prog 118 #[.slice A n c, .int .i64 a, .int .i64 m, .int .i64 b, fv] w fun e w' => e = .returned (.tuple #[]) ∧ ∃ d', RowV w0 w' base A n c d' ∧ Rot a m b d d' := by
 have HD0 := Lib.hid h
 clear h
 have e1 : (m : Int) - (a : Int) = ((m - a : Nat) : Int) := by omega
 have e2 : (b : Int) - (m : Int) = ((b - m : Nat) : Int) := by omega
 obtain ⟨i0, hi0⟩ : ∃ i, i = m - a := ⟨_, rfl⟩
 obtain ⟨j0, hj0⟩ : ∃ i, i = b - m := ⟨_, rfl⟩
 rw [← hi0] at e1
 rw [← hj0] at e2
 have HI := Lib.hid hi0
 have HJ := Lib.hid hj0
 clear hi0 hj0
 have li : i0 ≤ n := by have := HI.out; omega
 have lj : j0 ≤ n := by have := HJ.out; omega
 go_enter Tryz.func118, Tryz.ntmps118
 go_wp2_with fail
 go_loopw [10, 11] (fun vi vj wr => ∃ (i j : Nat) (dk : Array SgR), vi = .int .i64 (i : Int) ∧ vj = .int .i64 (j : Int) ∧ 0 < i ∧ 0 < j ∧ i ≤ n ∧ j ≤ n ∧ Hid (i ≤ m - a ∧ j ≤ b - m) ∧ Hid (∀ d'', Rot (m - i) m (m + j) dk d'' → Rot a m b d d'') ∧ Hid (RowV w0 wr base A n c dk)) (fun i j _ => (intOf i).toNat + (intOf j).toNat)
 case atStart => exact ⟨i0, j0, d, rfl, rfl, by have := HI.out; omega, by have := HJ.out; omega, li, lj, Lib.hid ⟨by have := HI.out; omega, by have := HJ.out; omega⟩, Lib.hid (fun d'' hr => by rw [HI.out, HJ.out, show m - (m - a) = a from by omega, show m + (b - m) = b from by omega] at hr; exact hr), HD0⟩
 case round =>
  clear HD0 HI HJ e1 e2 li lj
  obtain ⟨i, j, dk, rfl, rfl, hi, hj, hin, hjn, HB, HR, HD⟩ := hrel
  obtain ⟨p, hp⟩ : ∃ p, p = m - i := ⟨_, rfl⟩
  have HP := Lib.hid hp
  have p0 : (m : Int) - (i : Int) = (p : Int) := by have := HB.out; omega
  have hpn : p ≤ n := by omega
  have pw : IntKind.i64.wrap (p : Int) = (p : Int) := by rw [IntKind.wrap_i64]; omega
  clear hp
  by_cases hne : i = j
  ·subst hne
   have i1 : ¬ ((i : Int) ≠ (i : Int)) := by simp
   have HC := Lib.hid (swapRange_any fv w0 wr base A n c dk HD.out p m i (by have := HP.out; have := HB.out; omega) (by have := HB.out; omega) hn hc)
   go_wp2_with fail
   refine HC.out.mono ?_
   rintro e w2 ⟨rfl, d2, h2, hs2⟩
   go_wp2_with fail
   go_end0
   exact ⟨rfl, d2, h2, HR.out _ (Rot.even (by have := HB.out; omega) (by rw [HP.out] at hs2; exact hs2))⟩
  ·by_cases hgt : j < i
   ·have hdne : decide ((i : Int) = (j : Int)) = false := decide_eq_false (by omega)
    have i0 : ¬ (i : Int) = (j : Int) := by omega
    have i1 : (j : Int) < (i : Int) := by omega
    have q0 : (i : Int) - (j : Int) = ((i - j : Nat) : Int) := by omega
    have qw : IntKind.i64.wrap ((i - j : Nat) : Int) = ((i - j : Nat) : Int) := by rw [IntKind.wrap_i64]; omega
    have HC := Lib.hid (swapRange_any fv w0 wr base A n c dk HD.out p m j (by have := HP.out; have := HB.out; omega) (by have := HB.out; omega) hn hc)
    go_wp2_with fail
    refine HC.out.mono ?_
    rintro e w2 ⟨rfl, d2, h2, hs2⟩
    have HD2 := Lib.hid h2
    have HS2 := Lib.hid hs2
    clear h2 hs2 HC
    go_wp2_with fail
    go_roundw
    case rel => exact ⟨i - j, j, d2, by go_num, rfl, by omega, hj, by omega, hjn, Lib.hid ⟨by have := HB.out; omega, HB.out.2⟩, Lib.hid (fun d'' hr => HR.out d'' (Rot.left (by have := HB.out; omega) hgt (by have := HS2.out; rw [HP.out] at this; exact this) (by rw [show m - (i - j) = m - i + j from by have := HB.out; omega] at hr; exact hr))), HD2⟩
    case measure => simp [intOf]; omega
   ·have hdne : decide ((i : Int) = (j : Int)) = false := decide_eq_false (by omega)
    have i0 : ¬ (i : Int) = (j : Int) := by omega
    have i1 : ¬ (j : Int) < (i : Int) := by omega
    have q0 : (j : Int) - (i : Int) = ((j - i : Nat) : Int) := by omega
    have qw : IntKind.i64.wrap ((j - i : Nat) : Int) = ((j - i : Nat) : Int) := by rw [IntKind.wrap_i64]; omega
    obtain ⟨q, hq⟩ : ∃ q, q = m + j - i := ⟨_, rfl⟩
    have r0 : (m : Int) + (j : Int) - (i : Int) = (q : Int) := by omega
    have HQ := Lib.hid hq
    have rw0 : IntKind.i64.wrap (q : Int) = (q : Int) := by rw [IntKind.wrap_i64]; have := HB.out; omega
    clear hq
    have HC := Lib.hid (swapRange_any fv w0 wr base A n c dk HD.out p q i (by have := HP.out; have := HQ.out; have := HB.out; omega) (by have := HQ.out; have := HB.out; omega) hn hc)
    go_wp2_with fail
    refine HC.out.mono ?_
    rintro e w2 ⟨rfl, d2, h2, hs2⟩
    have HD2 := Lib.hid h2
    have HS2 := Lib.hid hs2
    clear h2 hs2 HC
    go_wp2_with fail
    go_roundw
    case rel => exact ⟨i, j - i, d2, rfl, by go_num, hi, by omega, hin, by omega, Lib.hid ⟨HB.out.1, by have := HB.out; omega⟩, Lib.hid (fun d'' hr => HR.out d'' (Rot.right (by have := HB.out; omega) (by omega) (by have := HS2.out; rw [HP.out, HQ.out] at this; exact this) hr)), HD2⟩
    case measure => simp [intOf]; omega
end Go.Proofs.YtbfepgjeecndiaaGreat
