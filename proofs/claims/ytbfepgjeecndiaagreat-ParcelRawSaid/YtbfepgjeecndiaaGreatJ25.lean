/- The insertion sort of signed votes (slices' insertionSortCmpFunc). -/
import Derived.Sort.WalkA
import Derived.Test.YtbfepgjeecndiaaGreatJ18
namespace Go.Proofs.YtbfepgjeecndiaaGreat
set_option maxRecDepth 100000
set_option maxHeartbeats 8000000
open Go.RowKit
set_option linter.unusedVariables false
set_option linter.unusedSimpArgs false
attribute [local go_sem ↓] Go.wp_at_zero Go.wp_at_succ
theorem insSort_any (w0 w : World) (base : Nat) (A : Option Addr) (n c : Nat) (d : Array SgR) (h : RowV w0 w base A n c d) (a b : Nat) (hab : a ≤ b) (hb : b ≤ n) (hn : n ≤ 1000000000) (hc : c ≤ 9223372036854775807) :
  Calls Tryz.prog 102 #[.slice A n c, .int .i64 a, .int .i64 b, .func (.func 61) #[] #[]] w fun e w' => e = .returned (.tuple #[]) ∧ ∃ d', RowV w0 w' base A n c d' ∧ Sort.PermIn a b d d' ∧ Sort.SortedIn ltSg a b d' := by
 have HD0 := Lib.hid h
 have HSZ := Lib.hid (RowS.size h)
 clear h
 go_enter Tryz.func102, Tryz.ntmps102
 go_wp2_with fail
 go_loopw [8] (fun vi wr => ∃ (i : Nat) (dk : Array SgR), vi = .int .i64 (i : Int) ∧ a < i ∧ i ≤ b + 1 ∧ Hid (RowV w0 wr base A n c dk) ∧ Hid (Sort.insOuter ltSg a b i dk = Sort.insOuter ltSg a b (a + 1) d)) (fun i _ => b + 1 - (intOf i).toNat)
 case atStart => exact ⟨a + 1, d, by go_num, by omega, by omega, HD0, Lib.hid rfl⟩
 case round =>
  clear HD0
  obtain ⟨i, dk, rfl, hai, hib, HD, HO⟩ := hrel
  by_cases hlt : i < b
  ·have i1 : (i : Int) < (b : Int) := by omega
   go_wp2_with fail
   go_loopw [9] (fun vj wr => ∃ (j : Nat) (dj : Array SgR), vj = .int .i64 (j : Int) ∧ a ≤ j ∧ j ≤ i ∧ Hid (RowV w0 wr base A n c dj) ∧ Hid (Sort.insInner ltSg a j dj = Sort.insInner ltSg a i dk)) (fun j _ => (intOf j).toNat)
   case atStart => exact ⟨i, dk, rfl, by omega, Nat.le_refl _, HD, Lib.hid rfl⟩
   case round =>
    clear HD
    rename_i wr0
    obtain ⟨j, dj, rfl, haj, hji, HD, HI⟩ := hrel
    have OUT := Lib.hid (fun (hs : j ≤ a ∨ ltSg dj[j]! dj[j - 1]! = false) => show Sort.insOuter ltSg a b (i + 1) dj = Sort.insOuter ltSg a b (a + 1) d from by
     rw [← HO.out, insOuter_go _ _ _ _ _ hlt, ← HI.out, insInner_stop _ _ _ _ hs])
    by_cases hja : a < j
    ·obtain ⟨p, hp⟩ : ∃ p, p = j - 1 := ⟨_, rfl⟩
     have HP := Lib.hid hp
     have g1 : (a : Int) < (j : Int) := by omega
     have p0 : (j : Int) - 1 = (p : Int) := by omega
     have hjn : j < n := by omega
     have hpn : p < n := by omega
     have p1 : (p : Int) < (n : Int) := by omega
     have j1 : (j : Int) < (n : Int) := by omega
     have pw : IntKind.i64.wrap (p : Int) = (p : Int) := by rw [IntKind.wrap_i64]; omega
     have jw : IntKind.i64.wrap (j : Int) = (j : Int) := by rw [IntKind.wrap_i64]; omega
     obtain ⟨g, hA, -, -⟩ := HD.out.at (by omega)
     have HA := Lib.hid hA
     subst hA
     clear hp
     cases hlv : ltSg dj[j]! dj[p]! with
     | true =>
      have HL := Lib.hid hlv
      obtain ⟨R, hR⟩ : ∃ R, dj[j]! = R := ⟨_, rfl⟩
      obtain ⟨T, hT⟩ : ∃ R, dj[p]! = R := ⟨_, rfl⟩
      obtain ⟨vx, hvx⟩ : ∃ v, Value.agg (sgA R) = v := ⟨_, rfl⟩
      obtain ⟨vy, hvy⟩ : ∃ v, Value.agg (sgA T) = v := ⟨_, rfl⟩
      have HVX := Lib.hid hvx
      have HVY := Lib.hid hvy
      have L1 := Lib.hid (fun (W : World) (he : Ext wr W) => HD.out.load rfl hjn hR he)
      have L2 := Lib.hid (fun (W : World) (he : Ext wr W) => HD.out.load rfl hpn hT he)
      obtain ⟨z, hz, HCM⟩ := HD.out.cmp hjn hpn hR hT vx vy hvx hvy true hlv
      clear hvx hvy hR hT
      clear hlv
      go_wp2_with fail
      refine wp_region_plan (S := fun W => Ext wr W) (by kernel_rfl) (by kernel_rfl) ((Ext.refl wr).drew') ?_
      (refine pr 0 (oi := ⟨some 18, .move (.tmp 9), 3, "zsortanyfunc.go:12", #[], none⟩) (v := ?_) rfl (by kernel_rfl) (by rfl) ?h ?_; case h => (intro W hSW; go_simp <;> with_reducible rfl))
      try simp only [lays]
      (refine pr 1 (oi := ⟨some 19, .move (.tmp 1), 3, "zsortanyfunc.go:12", #[], none⟩) (v := ?_) rfl (by kernel_rfl) (by rfl) ?h ?_; case h => (intro W hSW; go_simp <;> with_reducible rfl))
      try simp only [lays]
      (refine pr 2 (oi := ⟨some 20, .binOp .gtr 3 (.tmp 18) (.tmp 19) 3, 4, "zsortanyfunc.go:12", #[⟨0, .data⟩, ⟨1, .data⟩], none⟩) (v := ?_) rfl (by kernel_rfl) (by rfl) ?h ?_; case h => (intro W hSW; go_simp <;> with_reducible rfl))
      try simp only [lays]
      (refine pr 3 (oi := ⟨some 21, .move (.tmp 20), 4, "zsortanyfunc.go:12", #[⟨2, .data⟩], none⟩) (v := ?_) rfl (by kernel_rfl) (by rfl) ?h ?_; case h => (intro W hSW; go_simp <;> with_reducible rfl))
      try simp only [lays]
      refine plan_oi (i := 4) (oi := ⟨some 22, .move (.tmp 3), 81, "zsortanyfunc.go:12", #[⟨3, .guard⟩], some (3, true)⟩) rfl (by kernel_rfl) (by kernel_rfl) ?_
      first | (refine ⟨?_, (fx_read (Or.inl ⟨by rfl, ?hy2_4⟩)), ?_⟩; case hy2_4 => (intro W hSW; go_simp <;> with_reducible rfl)) | (refine ⟨undef, fx_skip (by rfl), ?_⟩)
      try simp only [lays]
      refine plan_oi (i := 5) (oi := ⟨some 23, .move (.tmp 0), 22, "zsortanyfunc.go:12", #[⟨3, .guard⟩], some (3, true)⟩) rfl (by kernel_rfl) (by kernel_rfl) ?_
      first | (refine ⟨?_, (fx_read (Or.inl ⟨by rfl, ?hy2_5⟩)), ?_⟩; case hy2_5 => (intro W hSW; go_simp <;> with_reducible rfl)) | (refine ⟨undef, fx_skip (by rfl), ?_⟩)
      try simp only [lays]
      refine plan_oi (i := 6) (oi := ⟨some 24, .move (.tmp 9), 3, "zsortanyfunc.go:12", #[⟨3, .guard⟩], some (3, true)⟩) rfl (by kernel_rfl) (by kernel_rfl) ?_
      first | (refine ⟨?_, (fx_read (Or.inl ⟨by rfl, ?hy2_6⟩)), ?_⟩; case hy2_6 => (intro W hSW; go_simp <;> with_reducible rfl)) | (refine ⟨undef, fx_skip (by rfl), ?_⟩)
      try simp only [lays]
      refine plan_oi (i := 7) (oi := ⟨some 25, .indexAddr 22 (.tmp 23) (.tmp 24), 0, "zsortanyfunc.go:12", #[⟨5, .data⟩, ⟨6, .data⟩, ⟨3, .guard⟩], some (3, true)⟩) rfl (by kernel_rfl) (by kernel_rfl) ?_
      first | (refine ⟨?_, (fx_read (Or.inl ⟨by rfl, ?hy2_7⟩)), ?_⟩; case hy2_7 => (intro W hSW; go_simp <;> with_reducible rfl)) | (refine ⟨undef, fx_skip (by rfl), ?_⟩)
      try simp only [lays]
      first | (refine plan_take (i := 8) (oi := ⟨some 26, .load 48 (.tmp 25), 48, "zsortanyfunc.go:12", #[⟨7, .data⟩, ⟨3, .guard⟩], some (3, true)⟩) (v := vx) rfl (by kernel_rfl) (by kernel_rfl) (fx_read ?hy2_8) ?_; case hy2_8 => (exact yields_loadSgV (by rfl) (.tmp 25) (by rfl) g (j * 23) (by rfl) R vx HVX.out (fun W hS => L1.out W hS))) | (refine plan_take (i := 8) (oi := ⟨some 26, .load 48 (.tmp 25), 48, "zsortanyfunc.go:12", #[⟨7, .data⟩, ⟨3, .guard⟩], some (3, true)⟩) (v := undef) rfl (by kernel_rfl) (by kernel_rfl) (fx_skip (by rfl)) ?_) | fail "OP8"
      try simp only [lays]
      refine plan_oi (i := 9) (oi := ⟨some 27, .move (.tmp 0), 22, "zsortanyfunc.go:12", #[⟨3, .guard⟩], some (3, true)⟩) rfl (by kernel_rfl) (by kernel_rfl) ?_
      first | (refine ⟨?_, (fx_read (Or.inl ⟨by rfl, ?hy2_9⟩)), ?_⟩; case hy2_9 => (intro W hSW; go_simp <;> with_reducible rfl)) | (refine ⟨undef, fx_skip (by rfl), ?_⟩)
      try simp only [lays]
      refine plan_oi (i := 10) (oi := ⟨some 28, .move (.tmp 9), 3, "zsortanyfunc.go:12", #[⟨3, .guard⟩], some (3, true)⟩) rfl (by kernel_rfl) (by kernel_rfl) ?_
      first | (refine ⟨?_, (fx_read (Or.inl ⟨by rfl, ?hy2_10⟩)), ?_⟩; case hy2_10 => (intro W hSW; go_simp <;> with_reducible rfl)) | (refine ⟨undef, fx_skip (by rfl), ?_⟩)
      try simp only [lays]
      refine plan_oi (i := 11) (oi := ⟨some 29, .binOp .sub 3 (.tmp 28) (.const (.int .i64 1)) 3, 3, "zsortanyfunc.go:12", #[⟨10, .data⟩, ⟨3, .guard⟩], some (3, true)⟩) rfl (by kernel_rfl) (by kernel_rfl) ?_
      first | (refine ⟨?_, (fx_read (Or.inl ⟨by rfl, ?hy2_11⟩)), ?_⟩; case hy2_11 => (intro W hSW; go_simp <;> with_reducible rfl)) | (refine ⟨undef, fx_skip (by rfl), ?_⟩)
      try simp only [lays]
      refine plan_oi (i := 12) (oi := ⟨some 30, .indexAddr 22 (.tmp 27) (.tmp 29), 0, "zsortanyfunc.go:12", #[⟨9, .data⟩, ⟨11, .data⟩, ⟨3, .guard⟩], some (3, true)⟩) rfl (by kernel_rfl) (by kernel_rfl) ?_
      first | (refine ⟨?_, (fx_read (Or.inl ⟨by rfl, ?hy2_12⟩)), ?_⟩; case hy2_12 => (intro W hSW; go_simp <;> with_reducible rfl)) | (refine ⟨undef, fx_skip (by rfl), ?_⟩)
      try simp only [lays]
      first | (refine plan_take (i := 13) (oi := ⟨some 31, .load 48 (.tmp 30), 48, "zsortanyfunc.go:12", #[⟨12, .data⟩, ⟨3, .guard⟩], some (3, true)⟩) (v := vy) rfl (by kernel_rfl) (by kernel_rfl) (fx_read ?hy2_13) ?_; case hy2_13 => (exact yields_loadSgV (by rfl) (.tmp 30) (by rfl) g (p * 23) (by rfl) T vy HVY.out (fun W hS => L2.out W hS))) | (refine plan_take (i := 13) (oi := ⟨some 31, .load 48 (.tmp 30), 48, "zsortanyfunc.go:12", #[⟨12, .data⟩, ⟨3, .guard⟩], some (3, true)⟩) (v := undef) rfl (by kernel_rfl) (by kernel_rfl) (fx_skip (by rfl)) ?_) | fail "OP13"
      try simp only [lays]
      refine plan_oi (i := 14) (oi := ⟨some 32, .call { callee := .value (.tmp 22), args := #[.tmp 26, .tmp 31], argTypes := #[48, 48] }, 3, "zsortanyfunc.go:12", #[⟨4, .data⟩, ⟨8, .data⟩, ⟨13, .data⟩, ⟨3, .chain⟩, ⟨3, .guard⟩], some (3, true)⟩) rfl (by kernel_rfl) (by kernel_rfl) ?_
      first | (refine ⟨?_, (fx_call (by rfl) (fun W hSW K hK => ?hy2_14)), ?_⟩; case hy2_14 => (go_simp; go_at_call 61; (with_reducible refine (HCM.out W hSW).mono ?_); rintro e w1 ⟨rfl, he1⟩; exact hK.out _ (hSW.trans he1))) | (refine ⟨undef, fx_skip (by rfl), ?_⟩)
      try simp only [lays]
      refine plan_oi (i := 15) (oi := ⟨some 33, .binOp .lss 3 (.tmp 32) (.const (.int .i64 0)) 3, 4, "zsortanyfunc.go:12", #[⟨14, .data⟩, ⟨3, .guard⟩], some (3, true)⟩) rfl (by kernel_rfl) (by kernel_rfl) ?_
      first | (refine ⟨?_, (fx_read (Or.inl ⟨by rfl, ?hy2_15⟩)), ?_⟩; case hy2_15 => (intro W hSW; go_simp <;> with_reducible rfl)) | (refine ⟨undef, fx_skip (by rfl), ?_⟩)
      try simp only [lays]
      (refine pr 16 (oi := ⟨some 34, .pick (.tmp 21) (.tmp 33) (.const (.bool false)), 4, "zsortanyfunc.go:12", #[⟨3, .data⟩, ⟨15, .data⟩], none⟩) (v := ?_) rfl (by kernel_rfl) (by rfl) ?h ?_; case h => (intro W hSW; go_simp <;> with_reducible rfl))
      try simp only [lays]
      refine Plan.done (by kernel_rfl) (fun W hSW => ?_)
      have HD2 := Lib.hid (RowS.ext HD.out hSW)
      clear HD HCM L1 L2 hSW HVX HVY hz
      have HD := Lib.hid (show RowV w0 W base _ n c dj from HD2.out)
      clear HD2
      obtain ⟨R, hR⟩ : ∃ R, dj[j]! = R := ⟨_, rfl⟩
      obtain ⟨T, hT⟩ : ∃ R, dj[p]! = R := ⟨_, rfl⟩
      obtain ⟨vx, hvx⟩ : ∃ v, Value.agg (sgA R) = v := ⟨_, rfl⟩
      obtain ⟨vy, hvy⟩ : ∃ v, Value.agg (sgA T) = v := ⟨_, rfl⟩
      have HVX := Lib.hid hvx
      have HVY := Lib.hid hvy
      obtain ⟨l1, l2, t1, t2, hx2⟩ := RowV.xchg HD.out rfl hjn hpn hR hT W.drew rfl
      have HX2 := Lib.hid hx2
      clear hvx hvy hR hT hx2
      go_wp2_with fail
      refine wp_region_held_drew (S := fun _ => True) (by kernel_rfl) (trivial) (fun hHeld => ?_)
      (refine Go.Proofs.YtbfepgjeecndiaaGreat.wr 0 (oi := ⟨some 37, .move (.tmp 0), 22, "zsortanyfunc.go:13", #[], none⟩) (v := ?_) rfl (by kernel_rfl) (by rfl) (fun _ _ _ h => h) ?h hHeld ?_; case h => (intro W hSW; go_simp <;> with_reducible rfl))
      try simp only [lays]
      (refine Go.Proofs.YtbfepgjeecndiaaGreat.wr 1 (oi := ⟨some 38, .move (.tmp 9), 3, "zsortanyfunc.go:13", #[], none⟩) (v := ?_) rfl (by kernel_rfl) (by rfl) (fun _ _ _ h => h) ?h hHeld ?_; case h => (intro W hSW; go_simp <;> with_reducible rfl))
      try simp only [lays]
      (refine Go.Proofs.YtbfepgjeecndiaaGreat.wr 2 (oi := ⟨some 39, .move (.tmp 0), 22, "zsortanyfunc.go:13", #[{ on := 15, ground := Ground.gcOnly Departure.lateStores }], none⟩) (v := ?_) rfl (by kernel_rfl) (by rfl) (fun _ _ _ h => h) ?h hHeld ?_; case h => (intro W hSW; go_simp <;> with_reducible rfl))
      try simp only [lays]
      (refine Go.Proofs.YtbfepgjeecndiaaGreat.wr 3 (oi := ⟨some 40, .move (.tmp 9), 3, "zsortanyfunc.go:13", #[{ on := 15, ground := Ground.gcOnly Departure.lateStores }], none⟩) (v := ?_) rfl (by kernel_rfl) (by rfl) (fun _ _ _ h => h) ?h hHeld ?_; case h => (intro W hSW; go_simp <;> with_reducible rfl))
      try simp only [lays]
      (refine Go.Proofs.YtbfepgjeecndiaaGreat.wr 4 (oi := ⟨some 41, .binOp .sub 3 (.tmp 40) (.const (.int .i64 1)) 3, 3, "zsortanyfunc.go:13", #[⟨3, .data⟩, { on := 15, ground := Ground.gcOnly Departure.lateStores }], none⟩) (v := ?_) rfl (by kernel_rfl) (by rfl) (fun _ _ _ h => h) ?h hHeld ?_; case h => (intro W hSW; go_simp <;> with_reducible rfl))
      try simp only [lays]
      (refine Go.Proofs.YtbfepgjeecndiaaGreat.wr 5 (oi := ⟨some 42, .move (.tmp 0), 22, "zsortanyfunc.go:13", #[], none⟩) (v := ?_) rfl (by kernel_rfl) (by rfl) (fun _ _ _ h => h) ?h hHeld ?_; case h => (intro W hSW; go_simp <;> with_reducible rfl))
      try simp only [lays]
      (refine Go.Proofs.YtbfepgjeecndiaaGreat.wr 6 (oi := ⟨some 43, .move (.tmp 9), 3, "zsortanyfunc.go:13", #[], none⟩) (v := ?_) rfl (by kernel_rfl) (by rfl) (fun _ _ _ h => h) ?h hHeld ?_; case h => (intro W hSW; go_simp <;> with_reducible rfl))
      try simp only [lays]
      (refine Go.Proofs.YtbfepgjeecndiaaGreat.wr 7 (oi := ⟨some 44, .binOp .sub 3 (.tmp 43) (.const (.int .i64 1)) 3, 3, "zsortanyfunc.go:13", #[⟨6, .data⟩], none⟩) (v := ?_) rfl (by kernel_rfl) (by rfl) (fun _ _ _ h => h) ?h hHeld ?_; case h => (intro W hSW; go_simp <;> with_reducible rfl))
      try simp only [lays]
      (refine Go.Proofs.YtbfepgjeecndiaaGreat.wr 8 (oi := ⟨some 45, .indexAddr 22 (.tmp 42) (.tmp 44), 0, "zsortanyfunc.go:13", #[⟨5, .data⟩, ⟨7, .data⟩], none⟩) (v := ?_) rfl (by kernel_rfl) (by rfl) (fun _ _ _ h => h) ?h hHeld ?_; case h => (intro W hSW; go_simp <;> with_reducible rfl))
      try simp only [lays]
      (refine Go.Proofs.YtbfepgjeecndiaaGreat.wr 10 (oi := ⟨some 47, .move (.tmp 0), 22, "zsortanyfunc.go:13", #[], none⟩) (v := ?_) rfl (by kernel_rfl) (by rfl) (fun _ _ _ h => h) ?h hHeld ?_; case h => (intro W hSW; go_simp <;> with_reducible rfl))
      try simp only [lays]
      (refine Go.Proofs.YtbfepgjeecndiaaGreat.wr 11 (oi := ⟨some 48, .move (.tmp 9), 3, "zsortanyfunc.go:13", #[], none⟩) (v := ?_) rfl (by kernel_rfl) (by rfl) (fun _ _ _ h => h) ?h hHeld ?_; case h => (intro W hSW; go_simp <;> with_reducible rfl))
      try simp only [lays]
      (refine Go.Proofs.YtbfepgjeecndiaaGreat.wr 12 (oi := ⟨some 49, .indexAddr 22 (.tmp 47) (.tmp 48), 0, "zsortanyfunc.go:13", #[⟨10, .data⟩, ⟨11, .data⟩], none⟩) (v := ?_) rfl (by kernel_rfl) (by rfl) (fun _ _ _ h => h) ?h hHeld ?_; case h => (intro W hSW; go_simp <;> with_reducible rfl))
      try simp only [lays]
      refine wpAnyH_ready (rs := [9, 13]) (by kernel_rfl) (by simp) ?_
      refine (AllReadyH.cons (o := ⟨some 46, .load 48 (.tmp 45), 48, "zsortanyfunc.go:13", #[⟨8, .data⟩], none⟩) rfl (fun K hK => ?ka3_6_12_9) (AllReadyH.cons (o := ⟨some 50, .load 48 (.tmp 49), 48, "zsortanyfunc.go:13", #[⟨12, .data⟩], none⟩) rfl (fun K hK => ?ka3_6_12_13) AllReadyH.nil))
      case' ka3_6_12_9 =>
       (refine step_loadSg rfl (.tmp 45) (by rfl) g (p * 23) (by rfl) T l2 vy HVY.out ?_)
       refine hK.out _ _ (trivial) (fun hHeld => ?_)
       clear hK K
       try simp only [lays]
       refine wpAnyH_ready (rs := [13]) (by kernel_rfl) (by simp) ?_
       refine (AllReadyH.cons (o := ⟨some 50, .load 48 (.tmp 49), 48, "zsortanyfunc.go:13", #[⟨12, .data⟩], none⟩) rfl (fun K hK => ?_) AllReadyH.nil)
       (refine step_loadSg rfl (.tmp 49) (by rfl) g (j * 23) (by rfl) R l1 vx HVX.out ?_)
       refine hK.out _ _ (trivial) (fun hHeld => ?_)
       clear hK K
       try simp only [lays]
       (refine Go.Proofs.YtbfepgjeecndiaaGreat.wr 14 (oi := ⟨some 51, .indexAddr 22 (.tmp 37) (.tmp 38), 0, "zsortanyfunc.go:13", #[⟨0, .data⟩, ⟨1, .data⟩, ⟨0, .phase⟩, ⟨1, .phase⟩, { on := 2, ground := Ground.textOnly Departure.lateStores }, { on := 3, ground := Ground.textOnly Departure.lateStores }, { on := 4, ground := Ground.textOnly Departure.lateStores }, ⟨5, .phase⟩, ⟨6, .phase⟩, ⟨7, .phase⟩, ⟨8, .phase⟩, ⟨9, .phase⟩, { on := 10, ground := Ground.textOnly Departure.lateStores }, { on := 11, ground := Ground.textOnly Departure.lateStores }, { on := 12, ground := Ground.textOnly Departure.lateStoresUnsure }, ⟨13, .phase⟩], none⟩) (v := ?_) rfl (by kernel_rfl) (by rfl) (fun _ _ _ h => h) ?h hHeld ?_; case h => (intro W hSW; go_simp <;> with_reducible rfl))
       try simp only [lays]
       refine wpAnyH_ready (rs := [15]) (by kernel_rfl) (by simp) ?_
       refine (AllReadyH.cons (o := ⟨none, .store 48 (.tmp 51) (.tmp 46), 0, "zsortanyfunc.go:13", #[⟨14, .data⟩, ⟨9, .data⟩, ⟨0, .phase⟩, ⟨1, .phase⟩, { on := 2, ground := Ground.textOnly Departure.lateStores }, { on := 3, ground := Ground.textOnly Departure.lateStores }, { on := 4, ground := Ground.textOnly Departure.lateStores }, ⟨5, .phase⟩, ⟨6, .phase⟩, ⟨7, .phase⟩, ⟨8, .phase⟩, ⟨9, .phase⟩, { on := 10, ground := Ground.textOnly Departure.lateStores }, { on := 11, ground := Ground.textOnly Departure.lateStores }, { on := 12, ground := Ground.textOnly Departure.lateStoresUnsure }, ⟨13, .phase⟩], none⟩) rfl (fun K hK => ?_) AllReadyH.nil)
       (refine step_storeSg rfl (.tmp 51) (.tmp 46) (by rfl) g (j * 23) (by rfl) T vy HVY.out (by rfl) t1 ?_)
       refine hK.out _ _ (trivial) (fun hHeld => ?_)
       clear hK K
       try simp only [lays]
       (refine Go.Proofs.YtbfepgjeecndiaaGreat.wr 16 (oi := ⟨some 52, .indexAddr 22 (.tmp 39) (.tmp 41), 0, "zsortanyfunc.go:13", #[⟨2, .data⟩, ⟨4, .data⟩, ⟨0, .phase⟩, ⟨1, .phase⟩, ⟨2, .phase⟩, ⟨3, .phase⟩, ⟨4, .phase⟩, ⟨5, .phase⟩, ⟨6, .phase⟩, ⟨7, .phase⟩, ⟨8, .phase⟩, ⟨9, .phase⟩, ⟨10, .phase⟩, ⟨11, .phase⟩, ⟨12, .phase⟩, ⟨13, .phase⟩, ⟨14, .phase⟩, ⟨15, .phase⟩], none⟩) (v := ?_) rfl (by kernel_rfl) (by rfl) (fun _ _ _ h => h) ?h hHeld ?_; case h => (intro W hSW; go_simp <;> with_reducible rfl))
       try simp only [lays]
       refine wpAnyH_ready (rs := [17]) (by kernel_rfl) (by simp) ?_
       refine (AllReadyH.cons (o := ⟨none, .store 48 (.tmp 52) (.tmp 50), 0, "zsortanyfunc.go:13", #[⟨16, .data⟩, ⟨13, .data⟩, ⟨15, .chain⟩, ⟨0, .phase⟩, ⟨1, .phase⟩, ⟨2, .phase⟩, ⟨3, .phase⟩, ⟨4, .phase⟩, ⟨5, .phase⟩, ⟨6, .phase⟩, ⟨7, .phase⟩, ⟨8, .phase⟩, ⟨9, .phase⟩, ⟨10, .phase⟩, ⟨11, .phase⟩, ⟨12, .phase⟩, ⟨13, .phase⟩, ⟨14, .phase⟩, ⟨15, .phase⟩], none⟩) rfl (fun K hK => ?_) AllReadyH.nil)
       (refine step_storeSg rfl (.tmp 52) (.tmp 50) (by rfl) g (p * 23) (by rfl) R vx HVX.out (by rfl) t2 ?_)
       refine hK.out _ _ (trivial) (fun hHeld => ?_)
       clear hK K
       try simp only [lays]
       refine wpAnyH_done (by kernel_rfl) ?_ _
      case' ka3_6_12_13 =>
       (refine step_loadSg rfl (.tmp 49) (by rfl) g (j * 23) (by rfl) R l1 vx HVX.out ?_)
       refine hK.out _ _ (trivial) (fun hHeld => ?_)
       clear hK K
       try simp only [lays]
       refine wpAnyH_ready (rs := [9]) (by kernel_rfl) (by simp) ?_
       refine (AllReadyH.cons (o := ⟨some 46, .load 48 (.tmp 45), 48, "zsortanyfunc.go:13", #[⟨8, .data⟩], none⟩) rfl (fun K hK => ?_) AllReadyH.nil)
       (refine step_loadSg rfl (.tmp 45) (by rfl) g (p * 23) (by rfl) T l2 vy HVY.out ?_)
       refine hK.out _ _ (trivial) (fun hHeld => ?_)
       clear hK K
       try simp only [lays]
       (refine Go.Proofs.YtbfepgjeecndiaaGreat.wr 14 (oi := ⟨some 51, .indexAddr 22 (.tmp 37) (.tmp 38), 0, "zsortanyfunc.go:13", #[⟨0, .data⟩, ⟨1, .data⟩, ⟨0, .phase⟩, ⟨1, .phase⟩, { on := 2, ground := Ground.textOnly Departure.lateStores }, { on := 3, ground := Ground.textOnly Departure.lateStores }, { on := 4, ground := Ground.textOnly Departure.lateStores }, ⟨5, .phase⟩, ⟨6, .phase⟩, ⟨7, .phase⟩, ⟨8, .phase⟩, ⟨9, .phase⟩, { on := 10, ground := Ground.textOnly Departure.lateStores }, { on := 11, ground := Ground.textOnly Departure.lateStores }, { on := 12, ground := Ground.textOnly Departure.lateStoresUnsure }, ⟨13, .phase⟩], none⟩) (v := ?_) rfl (by kernel_rfl) (by rfl) (fun _ _ _ h => h) ?h hHeld ?_; case h => (intro W hSW; go_simp <;> with_reducible rfl))
       try simp only [lays]
       refine wpAnyH_ready (rs := [15]) (by kernel_rfl) (by simp) ?_
       refine (AllReadyH.cons (o := ⟨none, .store 48 (.tmp 51) (.tmp 46), 0, "zsortanyfunc.go:13", #[⟨14, .data⟩, ⟨9, .data⟩, ⟨0, .phase⟩, ⟨1, .phase⟩, { on := 2, ground := Ground.textOnly Departure.lateStores }, { on := 3, ground := Ground.textOnly Departure.lateStores }, { on := 4, ground := Ground.textOnly Departure.lateStores }, ⟨5, .phase⟩, ⟨6, .phase⟩, ⟨7, .phase⟩, ⟨8, .phase⟩, ⟨9, .phase⟩, { on := 10, ground := Ground.textOnly Departure.lateStores }, { on := 11, ground := Ground.textOnly Departure.lateStores }, { on := 12, ground := Ground.textOnly Departure.lateStoresUnsure }, ⟨13, .phase⟩], none⟩) rfl (fun K hK => ?_) AllReadyH.nil)
       (refine step_storeSg rfl (.tmp 51) (.tmp 46) (by rfl) g (j * 23) (by rfl) T vy HVY.out (by rfl) t1 ?_)
       refine hK.out _ _ (trivial) (fun hHeld => ?_)
       clear hK K
       try simp only [lays]
       (refine Go.Proofs.YtbfepgjeecndiaaGreat.wr 16 (oi := ⟨some 52, .indexAddr 22 (.tmp 39) (.tmp 41), 0, "zsortanyfunc.go:13", #[⟨2, .data⟩, ⟨4, .data⟩, ⟨0, .phase⟩, ⟨1, .phase⟩, ⟨2, .phase⟩, ⟨3, .phase⟩, ⟨4, .phase⟩, ⟨5, .phase⟩, ⟨6, .phase⟩, ⟨7, .phase⟩, ⟨8, .phase⟩, ⟨9, .phase⟩, ⟨10, .phase⟩, ⟨11, .phase⟩, ⟨12, .phase⟩, ⟨13, .phase⟩, ⟨14, .phase⟩, ⟨15, .phase⟩], none⟩) (v := ?_) rfl (by kernel_rfl) (by rfl) (fun _ _ _ h => h) ?h hHeld ?_; case h => (intro W hSW; go_simp <;> with_reducible rfl))
       try simp only [lays]
       refine wpAnyH_ready (rs := [17]) (by kernel_rfl) (by simp) ?_
       refine (AllReadyH.cons (o := ⟨none, .store 48 (.tmp 52) (.tmp 50), 0, "zsortanyfunc.go:13", #[⟨16, .data⟩, ⟨13, .data⟩, ⟨15, .chain⟩, ⟨0, .phase⟩, ⟨1, .phase⟩, ⟨2, .phase⟩, ⟨3, .phase⟩, ⟨4, .phase⟩, ⟨5, .phase⟩, ⟨6, .phase⟩, ⟨7, .phase⟩, ⟨8, .phase⟩, ⟨9, .phase⟩, ⟨10, .phase⟩, ⟨11, .phase⟩, ⟨12, .phase⟩, ⟨13, .phase⟩, ⟨14, .phase⟩, ⟨15, .phase⟩], none⟩) rfl (fun K hK => ?_) AllReadyH.nil)
       (refine step_storeSg rfl (.tmp 52) (.tmp 50) (by rfl) g (p * 23) (by rfl) R vx HVX.out (by rfl) t2 ?_)
       refine hK.out _ _ (trivial) (fun hHeld => ?_)
       clear hK K
       try simp only [lays]
       refine wpAnyH_done (by kernel_rfl) ?_ _
      all_goals (
       have HD8 := Lib.hid HX2.out
       have HI8 := Lib.hid (show Sort.insInner ltSg a p (Sort.swp dj j p) = Sort.insInner ltSg a i dk from by
        have h1 := HL.out
        rw [HP.out] at h1
        rw [← HI.out, insInner_go ltSg a j dj hja h1, HP.out])
       generalize (W.drew.setCells g (j * 23) (sgL T)).setCells g (p * 23) (sgL R) = W8 at HD8 ⊢
       clear HX2 HD t1 t2 l1 l2 hHeld
       go_wp2_with fail
       go_roundw
       case rel => exact ⟨p, _, by go_num, by have := HP.out; omega, by omega, HD8, HI8⟩
       case measure => simp [intOf]; have := HP.out; omega)
     | false =>
      have HL := Lib.hid hlv
      obtain ⟨R, hR⟩ : ∃ R, dj[j]! = R := ⟨_, rfl⟩
      obtain ⟨T, hT⟩ : ∃ R, dj[p]! = R := ⟨_, rfl⟩
      obtain ⟨vx, hvx⟩ : ∃ v, Value.agg (sgA R) = v := ⟨_, rfl⟩
      obtain ⟨vy, hvy⟩ : ∃ v, Value.agg (sgA T) = v := ⟨_, rfl⟩
      have HVX := Lib.hid hvx
      have HVY := Lib.hid hvy
      have L1 := Lib.hid (fun (W : World) (he : Ext wr W) => HD.out.load rfl hjn hR he)
      have L2 := Lib.hid (fun (W : World) (he : Ext wr W) => HD.out.load rfl hpn hT he)
      obtain ⟨z, hz, HCM⟩ := HD.out.cmp hjn hpn hR hT vx vy hvx hvy false hlv
      clear hvx hvy hR hT
      clear hlv
      go_wp2_with fail
      refine wp_region_plan (S := fun W => Ext wr W) (by kernel_rfl) (by kernel_rfl) ((Ext.refl wr).drew') ?_
      (refine pr 0 (oi := ⟨some 18, .move (.tmp 9), 3, "zsortanyfunc.go:12", #[], none⟩) (v := ?_) rfl (by kernel_rfl) (by rfl) ?h ?_; case h => (intro W hSW; go_simp <;> with_reducible rfl))
      try simp only [lays]
      (refine pr 1 (oi := ⟨some 19, .move (.tmp 1), 3, "zsortanyfunc.go:12", #[], none⟩) (v := ?_) rfl (by kernel_rfl) (by rfl) ?h ?_; case h => (intro W hSW; go_simp <;> with_reducible rfl))
      try simp only [lays]
      (refine pr 2 (oi := ⟨some 20, .binOp .gtr 3 (.tmp 18) (.tmp 19) 3, 4, "zsortanyfunc.go:12", #[⟨0, .data⟩, ⟨1, .data⟩], none⟩) (v := ?_) rfl (by kernel_rfl) (by rfl) ?h ?_; case h => (intro W hSW; go_simp <;> with_reducible rfl))
      try simp only [lays]
      (refine pr 3 (oi := ⟨some 21, .move (.tmp 20), 4, "zsortanyfunc.go:12", #[⟨2, .data⟩], none⟩) (v := ?_) rfl (by kernel_rfl) (by rfl) ?h ?_; case h => (intro W hSW; go_simp <;> with_reducible rfl))
      try simp only [lays]
      refine plan_oi (i := 4) (oi := ⟨some 22, .move (.tmp 3), 81, "zsortanyfunc.go:12", #[⟨3, .guard⟩], some (3, true)⟩) rfl (by kernel_rfl) (by kernel_rfl) ?_
      first | (refine ⟨?_, (fx_read (Or.inl ⟨by rfl, ?hy4_4⟩)), ?_⟩; case hy4_4 => (intro W hSW; go_simp <;> with_reducible rfl)) | (refine ⟨undef, fx_skip (by rfl), ?_⟩)
      try simp only [lays]
      refine plan_oi (i := 5) (oi := ⟨some 23, .move (.tmp 0), 22, "zsortanyfunc.go:12", #[⟨3, .guard⟩], some (3, true)⟩) rfl (by kernel_rfl) (by kernel_rfl) ?_
      first | (refine ⟨?_, (fx_read (Or.inl ⟨by rfl, ?hy4_5⟩)), ?_⟩; case hy4_5 => (intro W hSW; go_simp <;> with_reducible rfl)) | (refine ⟨undef, fx_skip (by rfl), ?_⟩)
      try simp only [lays]
      refine plan_oi (i := 6) (oi := ⟨some 24, .move (.tmp 9), 3, "zsortanyfunc.go:12", #[⟨3, .guard⟩], some (3, true)⟩) rfl (by kernel_rfl) (by kernel_rfl) ?_
      first | (refine ⟨?_, (fx_read (Or.inl ⟨by rfl, ?hy4_6⟩)), ?_⟩; case hy4_6 => (intro W hSW; go_simp <;> with_reducible rfl)) | (refine ⟨undef, fx_skip (by rfl), ?_⟩)
      try simp only [lays]
      refine plan_oi (i := 7) (oi := ⟨some 25, .indexAddr 22 (.tmp 23) (.tmp 24), 0, "zsortanyfunc.go:12", #[⟨5, .data⟩, ⟨6, .data⟩, ⟨3, .guard⟩], some (3, true)⟩) rfl (by kernel_rfl) (by kernel_rfl) ?_
      first | (refine ⟨?_, (fx_read (Or.inl ⟨by rfl, ?hy4_7⟩)), ?_⟩; case hy4_7 => (intro W hSW; go_simp <;> with_reducible rfl)) | (refine ⟨undef, fx_skip (by rfl), ?_⟩)
      try simp only [lays]
      first | (refine plan_take (i := 8) (oi := ⟨some 26, .load 48 (.tmp 25), 48, "zsortanyfunc.go:12", #[⟨7, .data⟩, ⟨3, .guard⟩], some (3, true)⟩) (v := vx) rfl (by kernel_rfl) (by kernel_rfl) (fx_read ?hy4_8) ?_; case hy4_8 => (exact yields_loadSgV (by rfl) (.tmp 25) (by rfl) g (j * 23) (by rfl) R vx HVX.out (fun W hS => L1.out W hS))) | (refine plan_take (i := 8) (oi := ⟨some 26, .load 48 (.tmp 25), 48, "zsortanyfunc.go:12", #[⟨7, .data⟩, ⟨3, .guard⟩], some (3, true)⟩) (v := undef) rfl (by kernel_rfl) (by kernel_rfl) (fx_skip (by rfl)) ?_) | fail "OP8"
      try simp only [lays]
      refine plan_oi (i := 9) (oi := ⟨some 27, .move (.tmp 0), 22, "zsortanyfunc.go:12", #[⟨3, .guard⟩], some (3, true)⟩) rfl (by kernel_rfl) (by kernel_rfl) ?_
      first | (refine ⟨?_, (fx_read (Or.inl ⟨by rfl, ?hy4_9⟩)), ?_⟩; case hy4_9 => (intro W hSW; go_simp <;> with_reducible rfl)) | (refine ⟨undef, fx_skip (by rfl), ?_⟩)
      try simp only [lays]
      refine plan_oi (i := 10) (oi := ⟨some 28, .move (.tmp 9), 3, "zsortanyfunc.go:12", #[⟨3, .guard⟩], some (3, true)⟩) rfl (by kernel_rfl) (by kernel_rfl) ?_
      first | (refine ⟨?_, (fx_read (Or.inl ⟨by rfl, ?hy4_10⟩)), ?_⟩; case hy4_10 => (intro W hSW; go_simp <;> with_reducible rfl)) | (refine ⟨undef, fx_skip (by rfl), ?_⟩)
      try simp only [lays]
      refine plan_oi (i := 11) (oi := ⟨some 29, .binOp .sub 3 (.tmp 28) (.const (.int .i64 1)) 3, 3, "zsortanyfunc.go:12", #[⟨10, .data⟩, ⟨3, .guard⟩], some (3, true)⟩) rfl (by kernel_rfl) (by kernel_rfl) ?_
      first | (refine ⟨?_, (fx_read (Or.inl ⟨by rfl, ?hy4_11⟩)), ?_⟩; case hy4_11 => (intro W hSW; go_simp <;> with_reducible rfl)) | (refine ⟨undef, fx_skip (by rfl), ?_⟩)
      try simp only [lays]
      refine plan_oi (i := 12) (oi := ⟨some 30, .indexAddr 22 (.tmp 27) (.tmp 29), 0, "zsortanyfunc.go:12", #[⟨9, .data⟩, ⟨11, .data⟩, ⟨3, .guard⟩], some (3, true)⟩) rfl (by kernel_rfl) (by kernel_rfl) ?_
      first | (refine ⟨?_, (fx_read (Or.inl ⟨by rfl, ?hy4_12⟩)), ?_⟩; case hy4_12 => (intro W hSW; go_simp <;> with_reducible rfl)) | (refine ⟨undef, fx_skip (by rfl), ?_⟩)
      try simp only [lays]
      first | (refine plan_take (i := 13) (oi := ⟨some 31, .load 48 (.tmp 30), 48, "zsortanyfunc.go:12", #[⟨12, .data⟩, ⟨3, .guard⟩], some (3, true)⟩) (v := vy) rfl (by kernel_rfl) (by kernel_rfl) (fx_read ?hy4_13) ?_; case hy4_13 => (exact yields_loadSgV (by rfl) (.tmp 30) (by rfl) g (p * 23) (by rfl) T vy HVY.out (fun W hS => L2.out W hS))) | (refine plan_take (i := 13) (oi := ⟨some 31, .load 48 (.tmp 30), 48, "zsortanyfunc.go:12", #[⟨12, .data⟩, ⟨3, .guard⟩], some (3, true)⟩) (v := undef) rfl (by kernel_rfl) (by kernel_rfl) (fx_skip (by rfl)) ?_) | fail "OP13"
      try simp only [lays]
      refine plan_oi (i := 14) (oi := ⟨some 32, .call { callee := .value (.tmp 22), args := #[.tmp 26, .tmp 31], argTypes := #[48, 48] }, 3, "zsortanyfunc.go:12", #[⟨4, .data⟩, ⟨8, .data⟩, ⟨13, .data⟩, ⟨3, .chain⟩, ⟨3, .guard⟩], some (3, true)⟩) rfl (by kernel_rfl) (by kernel_rfl) ?_
      first | (refine ⟨?_, (fx_call (by rfl) (fun W hSW K hK => ?hy4_14)), ?_⟩; case hy4_14 => (go_simp; go_at_call 61; (with_reducible refine (HCM.out W hSW).mono ?_); rintro e w1 ⟨rfl, he1⟩; exact hK.out _ (hSW.trans he1))) | (refine ⟨undef, fx_skip (by rfl), ?_⟩)
      try simp only [lays]
      refine plan_oi (i := 15) (oi := ⟨some 33, .binOp .lss 3 (.tmp 32) (.const (.int .i64 0)) 3, 4, "zsortanyfunc.go:12", #[⟨14, .data⟩, ⟨3, .guard⟩], some (3, true)⟩) rfl (by kernel_rfl) (by kernel_rfl) ?_
      first | (refine ⟨?_, (fx_read (Or.inl ⟨by rfl, ?hy4_15⟩)), ?_⟩; case hy4_15 => (intro W hSW; go_simp <;> with_reducible rfl)) | (refine ⟨undef, fx_skip (by rfl), ?_⟩)
      try simp only [lays]
      (refine pr 16 (oi := ⟨some 34, .pick (.tmp 21) (.tmp 33) (.const (.bool false)), 4, "zsortanyfunc.go:12", #[⟨3, .data⟩, ⟨15, .data⟩], none⟩) (v := ?_) rfl (by kernel_rfl) (by rfl) ?h ?_; case h => (intro W hSW; go_simp <;> with_reducible rfl))
      try simp only [lays]
      refine Plan.done (by kernel_rfl) (fun W hSW => ?_)
      have HD2 := Lib.hid (RowS.ext HD.out hSW)
      have HO2 := Lib.hid (OUT.out (.inr (by have := HL.out; rw [HP.out] at this; exact this)))
      clear HD HCM L1 L2 hSW HVX HVY hz
      go_wp2_with fail
      go_roundw
      case rel => exact ⟨i + 1, dj, by go_num, by omega, by omega, HD2, HO2⟩
      case measure => simp [intOf]; omega
    ·have g1 : ¬ (a : Int) < (j : Int) := by omega
     have HD2 := Lib.hid (fun (W : World) (hW : Ext wr W) => RowS.ext HD.out hW)
     have HO2 := Lib.hid (OUT.out (.inl (by omega)))
     clear HD
     go_wp2_with fail
     refine wp_region_plan (S := fun W => Ext wr W) (by kernel_rfl) (by kernel_rfl) ((Ext.refl wr).drew') ?_
     (refine pr 0 (oi := ⟨some 18, .move (.tmp 9), 3, "zsortanyfunc.go:12", #[], none⟩) (v := ?_) rfl (by kernel_rfl) (by rfl) ?h ?_; case h => (intro W hSW; go_simp <;> with_reducible rfl))
     try simp only [lays]
     (refine pr 1 (oi := ⟨some 19, .move (.tmp 1), 3, "zsortanyfunc.go:12", #[], none⟩) (v := ?_) rfl (by kernel_rfl) (by rfl) ?h ?_; case h => (intro W hSW; go_simp <;> with_reducible rfl))
     try simp only [lays]
     (refine pr 2 (oi := ⟨some 20, .binOp .gtr 3 (.tmp 18) (.tmp 19) 3, 4, "zsortanyfunc.go:12", #[⟨0, .data⟩, ⟨1, .data⟩], none⟩) (v := ?_) rfl (by kernel_rfl) (by rfl) ?h ?_; case h => (intro W hSW; go_simp <;> with_reducible rfl))
     try simp only [lays]
     (refine pr 3 (oi := ⟨some 21, .move (.tmp 20), 4, "zsortanyfunc.go:12", #[⟨2, .data⟩], none⟩) (v := ?_) rfl (by kernel_rfl) (by rfl) ?h ?_; case h => (intro W hSW; go_simp <;> with_reducible rfl))
     try simp only [lays]
     (refine plan_take (i := 4) (oi := ⟨some 22, .move (.tmp 3), 81, "zsortanyfunc.go:12", #[⟨3, .guard⟩], some (3, true)⟩) (v := undef) rfl (by kernel_rfl) (by kernel_rfl) (fx_skip (by rfl)) ?_)
     try simp only [lays]
     (refine plan_take (i := 5) (oi := ⟨some 23, .move (.tmp 0), 22, "zsortanyfunc.go:12", #[⟨3, .guard⟩], some (3, true)⟩) (v := undef) rfl (by kernel_rfl) (by kernel_rfl) (fx_skip (by rfl)) ?_)
     try simp only [lays]
     (refine plan_take (i := 6) (oi := ⟨some 24, .move (.tmp 9), 3, "zsortanyfunc.go:12", #[⟨3, .guard⟩], some (3, true)⟩) (v := undef) rfl (by kernel_rfl) (by kernel_rfl) (fx_skip (by rfl)) ?_)
     try simp only [lays]
     (refine plan_take (i := 7) (oi := ⟨some 25, .indexAddr 22 (.tmp 23) (.tmp 24), 0, "zsortanyfunc.go:12", #[⟨5, .data⟩, ⟨6, .data⟩, ⟨3, .guard⟩], some (3, true)⟩) (v := undef) rfl (by kernel_rfl) (by kernel_rfl) (fx_skip (by rfl)) ?_)
     try simp only [lays]
     (refine plan_take (i := 8) (oi := ⟨some 26, .load 48 (.tmp 25), 48, "zsortanyfunc.go:12", #[⟨7, .data⟩, ⟨3, .guard⟩], some (3, true)⟩) (v := undef) rfl (by kernel_rfl) (by kernel_rfl) (fx_skip (by rfl)) ?_)
     try simp only [lays]
     (refine plan_take (i := 9) (oi := ⟨some 27, .move (.tmp 0), 22, "zsortanyfunc.go:12", #[⟨3, .guard⟩], some (3, true)⟩) (v := undef) rfl (by kernel_rfl) (by kernel_rfl) (fx_skip (by rfl)) ?_)
     try simp only [lays]
     (refine plan_take (i := 10) (oi := ⟨some 28, .move (.tmp 9), 3, "zsortanyfunc.go:12", #[⟨3, .guard⟩], some (3, true)⟩) (v := undef) rfl (by kernel_rfl) (by kernel_rfl) (fx_skip (by rfl)) ?_)
     try simp only [lays]
     (refine plan_take (i := 11) (oi := ⟨some 29, .binOp .sub 3 (.tmp 28) (.const (.int .i64 1)) 3, 3, "zsortanyfunc.go:12", #[⟨10, .data⟩, ⟨3, .guard⟩], some (3, true)⟩) (v := undef) rfl (by kernel_rfl) (by kernel_rfl) (fx_skip (by rfl)) ?_)
     try simp only [lays]
     (refine plan_take (i := 12) (oi := ⟨some 30, .indexAddr 22 (.tmp 27) (.tmp 29), 0, "zsortanyfunc.go:12", #[⟨9, .data⟩, ⟨11, .data⟩, ⟨3, .guard⟩], some (3, true)⟩) (v := undef) rfl (by kernel_rfl) (by kernel_rfl) (fx_skip (by rfl)) ?_)
     try simp only [lays]
     (refine plan_take (i := 13) (oi := ⟨some 31, .load 48 (.tmp 30), 48, "zsortanyfunc.go:12", #[⟨12, .data⟩, ⟨3, .guard⟩], some (3, true)⟩) (v := undef) rfl (by kernel_rfl) (by kernel_rfl) (fx_skip (by rfl)) ?_)
     try simp only [lays]
     (refine plan_take (i := 14) (oi := ⟨some 32, .call { callee := .value (.tmp 22), args := #[.tmp 26, .tmp 31], argTypes := #[48, 48] }, 3, "zsortanyfunc.go:12", #[⟨4, .data⟩, ⟨8, .data⟩, ⟨13, .data⟩, ⟨3, .chain⟩, ⟨3, .guard⟩], some (3, true)⟩) (v := undef) rfl (by kernel_rfl) (by kernel_rfl) (fx_skip (by rfl)) ?_)
     try simp only [lays]
     (refine plan_take (i := 15) (oi := ⟨some 33, .binOp .lss 3 (.tmp 32) (.const (.int .i64 0)) 3, 4, "zsortanyfunc.go:12", #[⟨14, .data⟩, ⟨3, .guard⟩], some (3, true)⟩) (v := undef) rfl (by kernel_rfl) (by kernel_rfl) (fx_skip (by rfl)) ?_)
     try simp only [lays]
     (refine pr 16 (oi := ⟨some 34, .pick (.tmp 21) (.tmp 33) (.const (.bool false)), 4, "zsortanyfunc.go:12", #[⟨3, .data⟩, ⟨15, .data⟩], none⟩) (v := ?_) rfl (by kernel_rfl) (by rfl) ?h ?_; case h => (intro W hSW; go_simp <;> with_reducible rfl))
     try simp only [lays]
     refine Plan.done (by kernel_rfl) (fun W hSW => ?_)
     have HD3 := Lib.hid (HD2.out W hSW)
     clear hSW HD2
     go_wp2_with fail
     go_roundw
     case rel => exact ⟨i + 1, dj, by go_num, by omega, by omega, HD3, HO2⟩
     case measure => simp [intOf]; omega
  ·have i1 : ¬ (i : Int) < (b : Int) := by omega
   go_wp2_with fail
   go_end0
   have := HO.out
   rw [insOuter_stop _ _ _ _ _ hlt] at this
   have hI := Sort.insertionSort_holds ltSg_swo d a b hab (by rw [HSZ.out]; exact hb)
   unfold Sort.insertionSort at hI
   rw [← this] at hI
   exact ⟨rfl, dk, HD.out, hI.1, hI.2⟩
end Go.Proofs.YtbfepgjeecndiaaGreat
