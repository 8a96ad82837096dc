/- The merging in place of signed votes (slices' symMergeCmpFunc). -/
import Derived.Test.YtbfepgjeecndiaaGreatJ26
import Derived.Test.YtbfepgjeecndiaaGreatJ27
namespace Go.Proofs.YtbfepgjeecndiaaGreat
set_option maxRecDepth 100000
set_option maxHeartbeats 8000000
open Go.RowKit
set_option linter.unusedVariables false
set_option linter.unusedSimpArgs false
attribute [local go_sem ↓] Go.wp_at_zero Go.wp_at_succ
theorem Rot.none_r {α : Type} [Inhabited α] (m b : Nat) (d : Array α) (h : m ≤ b) : Rot m m b d d := Rot.none' m b d h
theorem sym_opt {α : Type} [Inhabited α] {lt : α → α → Bool} {a s M : Nat} {d : Array α} (h : ¬ (a < s ∧ s < M)) (h1 : a ≤ s) (h2 : s ≤ M) (p : Sort.SortedIn lt a s d) (q : Sort.SortedIn lt s M d) : Sort.SortedIn lt a M d := by
 by_cases e : a = s
 ·rw [e]; exact q
 ·rw [show M = s from by omega]; exact p
theorem sym_final {α : Type} [Inhabited α] {lt : α → α → Bool} {a m b s e M : Nat} {d d1 d2 d3 : Array α} (hS : Sort.SWO lt) (has : a ≤ s) (hsm : s ≤ m) (hme : m ≤ e) (heb : e ≤ b) (hn : s + e = M + m) (hbd : b ≤ d.size)
  (hA : s = a ∨ e = b ∨ lt d[e]! d[s - 1]! = false) (hB : s = m ∨ e = m ∨ lt d[e - 1]! d[s]! = true) (h1 : Sort.SortedIn lt a m d) (h2 : Sort.SortedIn lt m b d) (R : Rot s m e d d1)
  (p2 : Sort.PermIn a M d1 d2) (s2 : Sort.SortedIn lt a M d2) (p3 : Sort.PermIn M b d2 d3) (s3 : Sort.SortedIn lt M b d3) : Sort.PermIn a b d d3 ∧ Sort.SortedIn lt a b d3 := by
 obtain ⟨q1, q2, q3, q4, q5⟩ := sym_parts hS h1 h2 has hsm hme heb hn hA hB R
 have hsz := R.size
 obtain ⟨k1, k2⟩ := sym_whole hS (a := a) (b := b) (mid := M) (by omega) (by omega) (by omega) q5 p2 s2 p3 s3
 exact ⟨Sort.permIn_trans _ _ _ _ _ (Sort.permIn_mono _ _ _ _ _ _ has heb (by omega) (R.perm hsm hme (by omega))) k2, k1⟩
theorem symMerge_any : ∀ (N : Nat) (w0 w : World) (base : Nat) (A : Option Addr) (n c : Nat) (d : Array SgR) (h : RowV w0 w base A n c d) (a m b : Nat) (hN : b - a ≤ N) (ham : a < m) (hmb : m < b) (hb : b ≤ n) (hn : n ≤ 1000000000) (hc : c ≤ 9223372036854775807) (hs1 : Sort.SortedIn ltSg a m d) (hs2 : Sort.SortedIn ltSg m b d),
  Calls Tryz.prog 103 #[.slice A n c, .int .i64 a, .int .i64 m, .int .i64 b, .func (.func 61) #[] #[]] w (fun e w' => e = .returned (.tuple #[]) ∧ ∃ d', RowV w0 w' base A n c d' ∧ Sort.PermIn a b d d' ∧ Sort.SortedIn ltSg a b d') := by
 intro N
 induction N with
 | zero => intro w0 w base A n c d h a m b hN ham hmb; omega
 | succ N ih =>
 intro w0 w base A n c d h a m b hN ham hmb hb hn hc hs1 hs2
 by_cases c1 : m = a + 1
 ·exact symA_any w0 w base A n c d h a m b c1 hmb hb hn hc hs2
 by_cases c2 : b = m + 1
 ·exact symB_any w0 w base A n c d h a m b (by omega) c2 hb hn hc hs1
 have HD := Lib.hid h
 have HSZ := Lib.hid (RowS.size h)
 have HS1 := Lib.hid hs1
 have HS2 := Lib.hid hs2
 obtain ⟨x, hx⟩ : ∃ x, x = m - a := ⟨_, rfl⟩
 have e1 : (m : Int) - (a : Int) = (x : Int) := by omega
 have xb : ((x : Int) == 1) = false := by simp; omega
 have hxn : x ≤ n := by omega
 obtain ⟨y, hy⟩ : ∃ y, y = b - m := ⟨_, rfl⟩
 have e2 : (b : Int) - (m : Int) = (y : Int) := by omega
 have yb : ((y : Int) == 1) = false := by simp; omega
 have hyn : y ≤ n := by omega
 obtain ⟨M, hM⟩ : ∃ M, M = (a + b) / 2 := ⟨_, rfl⟩
 have M0 : ((a : Int) + (b : Int)) / 2 = (M : Int) := by omega
 obtain ⟨nn, hnn⟩ : ∃ nn, nn = M + m := ⟨_, rfl⟩
 have n0 : (M : Int) + (m : Int) = (nn : Int) := by omega
 obtain ⟨p, hp⟩ : ∃ p, p = nn - 1 := ⟨_, rfl⟩
 have p0 : (nn : Int) - 1 = (p : Int) := by omega
 have hMb : M ≤ b := by omega
 have haM : a ≤ M := by omega
 have hnl : nn ≤ 2 * n := by omega
 have hpn : p ≤ 2 * n := by omega
 have HN := Lib.hid (show b - a ≤ N + 1 ∧ M - a ≤ N ∧ b - M ≤ N by omega)
 have HNN := Lib.hid (show nn = M + m ∧ p + 1 = nn by omega)
 obtain ⟨g, hA, -, -⟩ := RowS.at h (by omega)
 subst hA
 have key : ∃ lo hi : Nat, ((M < m ∧ lo = nn - b ∧ hi = M) ∨ (¬ M < m ∧ lo = a ∧ hi = m)) ∧ a ≤ lo ∧ lo ≤ hi ∧ hi ≤ m ∧ hi ≤ M ∧ nn ≤ lo + b ∧ (lo = a ∨ nn = lo + b) ∧ (hi = m ∨ hi = M) := by
  by_cases q : M < m
  ·exact ⟨nn - b, M, .inl ⟨q, rfl, rfl⟩, by omega⟩
  ·exact ⟨a, m, .inr ⟨q, rfl, rfl⟩, by omega⟩
 obtain ⟨lo, hi, hk, hlh⟩ := key
 have HLH := Lib.hid hlh
 have hlo : lo ≤ n := by omega
 have hhi : hi ≤ n := by omega
 have HK := Lib.hid hk
 have s0 : M < m → (nn : Int) - (b : Int) = (lo : Int) := fun q => by omega
 have HS0 := Lib.hid s0
 clear h hs1 hs2 hx hy hM hnn hp hlh s0 c1 c2
 rcases hk with ⟨k1, k2, k3⟩ | ⟨k1, k2, k3⟩
 all_goals first
  | (have k1i : (M : Int) < (m : Int) := by omega)
  | (have k1i : ¬ (M : Int) < (m : Int) := by omega)
 all_goals
  have k4 := HS0.out
  first | (replace k4 := k4 k1) | clear k4
 all_goals
  have HVL := Lib.hid (And.intro k2 k3)
  clear k1 k2 k3
  go_enter Tryz.func103, Tryz.ntmps103
  go_wp2_with fail
  go_loopw [20, 21] (fun vs vr wr => ∃ (s r : Nat), vs = .int .i64 (s : Int) ∧ vr = .int .i64 (r : Int) ∧ lo ≤ s ∧ s ≤ r ∧ r ≤ hi ∧ Hid (s = lo ∨ ltSg d[nn - s]! d[s - 1]! = false) ∧ Hid (r = hi ∨ ltSg d[nn - 1 - r]! d[r]! = true) ∧ Hid (RowV w0 wr base (some ⟨g, 0, none⟩) n c d)) (fun i j _ => (intOf j).toNat - (intOf i).toNat)
  case atStart => exact ⟨lo, hi, by first | rfl | rw [HVL.out.1], by first | rfl | rw [HVL.out.2], Nat.le_refl _, by have := HLH.out; omega, Nat.le_refl _, Lib.hid (.inl rfl), Lib.hid (.inl rfl), HD⟩
  case round =>
   clear HD
   obtain ⟨s, r, rfl, rfl, hls, hsr, hrh, HI, HJ, HD⟩ := hrel
   have hsn : s ≤ n := by omega
   have hrn : r ≤ n := by omega
   by_cases hlt : s < r
   ·have i1 : (s : Int) < (r : Int) := by omega
    obtain ⟨q, hq⟩ : ∃ q, q = (s + r) / 2 := ⟨_, rfl⟩
    have q0 : ((s : Int) + (r : Int)) / 2 = (q : Int) := by omega
    have hsq : s ≤ q := by omega
    have hqr : q < r := by omega
    have hqn : q < n := by omega
    have qn : (q : Int) < (n : Int) := by omega
    obtain ⟨u, hu⟩ : ∃ u, u = p - q := ⟨_, rfl⟩
    have HU := Lib.hid (show u = nn - 1 - q by have := HNN.out; omega)
    have u0 : (p : Int) - (q : Int) = (u : Int) := by have := HNN.out; have := HLH.out; omega
    have hun : u < n := by have := HNN.out; have := HLH.out; omega
    have un : (u : Int) < (n : Int) := by omega
    have uw : IntKind.i64.wrap (u : Int) = (u : Int) := by rw [IntKind.wrap_i64]; omega
    clear hq hu
    cases hlv : ltSg d[u]! d[q]! with
    | true =>
     have HL := Lib.hid hlv
     obtain ⟨R, hR⟩ : ∃ R, d[u]! = R := ⟨_, rfl⟩
     obtain ⟨T, hT⟩ : ∃ R, d[q]! = R := ⟨_, rfl⟩
     obtain ⟨vx, hvx⟩ : ∃ v, Value.agg (sgA R) = v := ⟨_, rfl⟩
     obtain ⟨vy, hvy⟩ : ∃ v, Value.agg (sgA T) = v := ⟨_, rfl⟩
     have HVX := Lib.hid hvx
     have HVY := Lib.hid hvy
     have L1 := Lib.hid (fun (W : World) (he : Ext wr W) => HD.out.load rfl hun hR he)
     have L2 := Lib.hid (fun (W : World) (he : Ext wr W) => HD.out.load rfl hqn hT he)
     obtain ⟨z, hz, HCM⟩ := HD.out.cmp hun hqn hR hT vx vy hvx hvy true hlv
     clear hvx hvy hR hT
     clear hlv
     go_wp2_with fail
     refine wp_region_plan (S := fun W => Ext wr W) (by kernel_rfl) (by kernel_rfl) ((Ext.refl wr).drew') ?_
     (refine pr 0 (oi := ⟨some 158, .move (.tmp 4), 81, "zsortanyfunc.go:441", #[], none⟩) (v := ?_) rfl (by kernel_rfl) (by rfl) ?h ?_; case h => (intro W hSW; go_simp <;> with_reducible rfl))
     try simp only [lays]
     (refine pr 1 (oi := ⟨some 159, .move (.tmp 0), 22, "zsortanyfunc.go:441", #[], none⟩) (v := ?_) rfl (by kernel_rfl) (by rfl) ?h ?_; case h => (intro W hSW; go_simp <;> with_reducible rfl))
     try simp only [lays]
     (refine pr 2 (oi := ⟨some 160, .move (.tmp 22), 3, "zsortanyfunc.go:441", #[], none⟩) (v := ?_) rfl (by kernel_rfl) (by rfl) ?h ?_; case h => (intro W hSW; go_simp <;> with_reducible rfl))
     try simp only [lays]
     (refine pr 3 (oi := ⟨some 161, .move (.tmp 23), 3, "zsortanyfunc.go:441", #[], none⟩) (v := ?_) rfl (by kernel_rfl) (by rfl) ?h ?_; case h => (intro W hSW; go_simp <;> with_reducible rfl))
     try simp only [lays]
     (refine pr 4 (oi := ⟨some 162, .binOp .sub 3 (.tmp 160) (.tmp 161) 3, 3, "zsortanyfunc.go:441", #[⟨2, .data⟩, ⟨3, .data⟩], none⟩) (v := ?_) rfl (by kernel_rfl) (by rfl) ?h ?_; case h => (intro W hSW; go_simp <;> with_reducible rfl))
     try simp only [lays]
     (refine pr 5 (oi := ⟨some 163, .indexAddr 22 (.tmp 159) (.tmp 162), 0, "zsortanyfunc.go:441", #[⟨1, .data⟩, ⟨4, .data⟩], none⟩) (v := ?_) rfl (by kernel_rfl) (by rfl) ?h ?_; case h => (intro W hSW; go_simp <;> with_reducible rfl))
     try simp only [lays]
     (refine plan_take (i := 6) (oi := ⟨some 164, .load 48 (.tmp 163), 48, "zsortanyfunc.go:441", #[⟨5, .data⟩], none⟩) (v := vx) rfl (by kernel_rfl) (by kernel_rfl) (fx_read ?hy12_6) ?_; case hy12_6 => (exact yields_loadSgV (by rfl) (.tmp 163) (by rfl) g (u * 23) (by rfl) R vx HVX.out (fun W hS => L1.out W hS)))
     try simp only [lays]
     (refine pr 7 (oi := ⟨some 165, .move (.tmp 0), 22, "zsortanyfunc.go:441", #[], none⟩) (v := ?_) rfl (by kernel_rfl) (by rfl) ?h ?_; case h => (intro W hSW; go_simp <;> with_reducible rfl))
     try simp only [lays]
     (refine pr 8 (oi := ⟨some 166, .move (.tmp 23), 3, "zsortanyfunc.go:441", #[], none⟩) (v := ?_) rfl (by kernel_rfl) (by rfl) ?h ?_; case h => (intro W hSW; go_simp <;> with_reducible rfl))
     try simp only [lays]
     (refine pr 9 (oi := ⟨some 167, .indexAddr 22 (.tmp 165) (.tmp 166), 0, "zsortanyfunc.go:441", #[⟨7, .data⟩, ⟨8, .data⟩], none⟩) (v := ?_) rfl (by kernel_rfl) (by rfl) ?h ?_; case h => (intro W hSW; go_simp <;> with_reducible rfl))
     try simp only [lays]
     (refine plan_take (i := 10) (oi := ⟨some 168, .load 48 (.tmp 167), 48, "zsortanyfunc.go:441", #[⟨9, .data⟩], none⟩) (v := vy) rfl (by kernel_rfl) (by kernel_rfl) (fx_read ?hy12_10) ?_; case hy12_10 => (exact yields_loadSgV (by rfl) (.tmp 167) (by rfl) g (q * 23) (by rfl) T vy HVY.out (fun W hS => L2.out W hS)))
     try simp only [lays]
     (refine plan_take (i := 11) (oi := ⟨some 169, .call { callee := .value (.tmp 158), args := #[.tmp 164, .tmp 168], argTypes := #[48, 48] }, 3, "zsortanyfunc.go:441", #[⟨0, .data⟩, ⟨6, .data⟩, ⟨10, .data⟩], none⟩) (v := ?_) rfl (by kernel_rfl) (by kernel_rfl) (fx_call (by rfl) (fun W hSW K hK => ?hy12_11)) ?_; case hy12_11 => (go_simp; go_at_call 61; (with_reducible refine (HCM.out W hSW).mono ?_); rintro e w1 ⟨rfl, he1⟩; exact hK.out _ (hSW.trans he1)))
     try simp only [lays]
     (refine pr 12 (oi := ⟨some 170, .binOp .lss 3 (.tmp 169) (.const (.int .i64 0)) 3, 4, "zsortanyfunc.go:441", #[⟨11, .data⟩], none⟩) (v := ?_) rfl (by kernel_rfl) (by rfl) ?h ?_; case h => (intro W hSW; go_simp <;> with_reducible rfl))
     try simp only [lays]
     (refine pr 13 (oi := ⟨some 171, .unOp .not 4 (.tmp 170), 4, "zsortanyfunc.go:441", #[⟨12, .data⟩], none⟩) (v := ?_) rfl (by kernel_rfl) (by rfl) ?h ?_; case h => (intro W hSW; go_simp <;> with_reducible rfl))
     try simp only [lays]
     refine Plan.done (by kernel_rfl) (fun W hSW => ?_)
     have HD2 := Lib.hid (RowS.ext HD.out hSW)
     clear HD HCM L1 L2 hSW HVX HVY hz uw
     go_wp2_with fail
     go_roundw
     case rel => exact ⟨s, q, rfl, by go_num, hls, by omega, by omega, HI, Lib.hid (.inr (by have := HL.out; rw [HU.out] at this; exact this)), HD2⟩
     case measure => simp [intOf]; omega
    | false =>
     have HL := Lib.hid hlv
     obtain ⟨R, hR⟩ : ∃ R, d[u]! = R := ⟨_, rfl⟩
     obtain ⟨T, hT⟩ : ∃ R, d[q]! = R := ⟨_, rfl⟩
     obtain ⟨vx, hvx⟩ : ∃ v, Value.agg (sgA R) = v := ⟨_, rfl⟩
     obtain ⟨vy, hvy⟩ : ∃ v, Value.agg (sgA T) = v := ⟨_, rfl⟩
     have HVX := Lib.hid hvx
     have HVY := Lib.hid hvy
     have L1 := Lib.hid (fun (W : World) (he : Ext wr W) => HD.out.load rfl hun hR he)
     have L2 := Lib.hid (fun (W : World) (he : Ext wr W) => HD.out.load rfl hqn hT he)
     obtain ⟨z, hz, HCM⟩ := HD.out.cmp hun hqn hR hT vx vy hvx hvy false hlv
     clear hvx hvy hR hT
     clear hlv
     go_wp2_with fail
     refine wp_region_plan (S := fun W => Ext wr W) (by kernel_rfl) (by kernel_rfl) ((Ext.refl wr).drew') ?_
     (refine pr 0 (oi := ⟨some 158, .move (.tmp 4), 81, "zsortanyfunc.go:441", #[], none⟩) (v := ?_) rfl (by kernel_rfl) (by rfl) ?h ?_; case h => (intro W hSW; go_simp <;> with_reducible rfl))
     try simp only [lays]
     (refine pr 1 (oi := ⟨some 159, .move (.tmp 0), 22, "zsortanyfunc.go:441", #[], none⟩) (v := ?_) rfl (by kernel_rfl) (by rfl) ?h ?_; case h => (intro W hSW; go_simp <;> with_reducible rfl))
     try simp only [lays]
     (refine pr 2 (oi := ⟨some 160, .move (.tmp 22), 3, "zsortanyfunc.go:441", #[], none⟩) (v := ?_) rfl (by kernel_rfl) (by rfl) ?h ?_; case h => (intro W hSW; go_simp <;> with_reducible rfl))
     try simp only [lays]
     (refine pr 3 (oi := ⟨some 161, .move (.tmp 23), 3, "zsortanyfunc.go:441", #[], none⟩) (v := ?_) rfl (by kernel_rfl) (by rfl) ?h ?_; case h => (intro W hSW; go_simp <;> with_reducible rfl))
     try simp only [lays]
     (refine pr 4 (oi := ⟨some 162, .binOp .sub 3 (.tmp 160) (.tmp 161) 3, 3, "zsortanyfunc.go:441", #[⟨2, .data⟩, ⟨3, .data⟩], none⟩) (v := ?_) rfl (by kernel_rfl) (by rfl) ?h ?_; case h => (intro W hSW; go_simp <;> with_reducible rfl))
     try simp only [lays]
     (refine pr 5 (oi := ⟨some 163, .indexAddr 22 (.tmp 159) (.tmp 162), 0, "zsortanyfunc.go:441", #[⟨1, .data⟩, ⟨4, .data⟩], none⟩) (v := ?_) rfl (by kernel_rfl) (by rfl) ?h ?_; case h => (intro W hSW; go_simp <;> with_reducible rfl))
     try simp only [lays]
     (refine plan_take (i := 6) (oi := ⟨some 164, .load 48 (.tmp 163), 48, "zsortanyfunc.go:441", #[⟨5, .data⟩], none⟩) (v := vx) rfl (by kernel_rfl) (by kernel_rfl) (fx_read ?hy13_6) ?_; case hy13_6 => (exact yields_loadSgV (by rfl) (.tmp 163) (by rfl) g (u * 23) (by rfl) R vx HVX.out (fun W hS => L1.out W hS)))
     try simp only [lays]
     (refine pr 7 (oi := ⟨some 165, .move (.tmp 0), 22, "zsortanyfunc.go:441", #[], none⟩) (v := ?_) rfl (by kernel_rfl) (by rfl) ?h ?_; case h => (intro W hSW; go_simp <;> with_reducible rfl))
     try simp only [lays]
     (refine pr 8 (oi := ⟨some 166, .move (.tmp 23), 3, "zsortanyfunc.go:441", #[], none⟩) (v := ?_) rfl (by kernel_rfl) (by rfl) ?h ?_; case h => (intro W hSW; go_simp <;> with_reducible rfl))
     try simp only [lays]
     (refine pr 9 (oi := ⟨some 167, .indexAddr 22 (.tmp 165) (.tmp 166), 0, "zsortanyfunc.go:441", #[⟨7, .data⟩, ⟨8, .data⟩], none⟩) (v := ?_) rfl (by kernel_rfl) (by rfl) ?h ?_; case h => (intro W hSW; go_simp <;> with_reducible rfl))
     try simp only [lays]
     (refine plan_take (i := 10) (oi := ⟨some 168, .load 48 (.tmp 167), 48, "zsortanyfunc.go:441", #[⟨9, .data⟩], none⟩) (v := vy) rfl (by kernel_rfl) (by kernel_rfl) (fx_read ?hy13_10) ?_; case hy13_10 => (exact yields_loadSgV (by rfl) (.tmp 167) (by rfl) g (q * 23) (by rfl) T vy HVY.out (fun W hS => L2.out W hS)))
     try simp only [lays]
     (refine plan_take (i := 11) (oi := ⟨some 169, .call { callee := .value (.tmp 158), args := #[.tmp 164, .tmp 168], argTypes := #[48, 48] }, 3, "zsortanyfunc.go:441", #[⟨0, .data⟩, ⟨6, .data⟩, ⟨10, .data⟩], none⟩) (v := ?_) rfl (by kernel_rfl) (by kernel_rfl) (fx_call (by rfl) (fun W hSW K hK => ?hy13_11)) ?_; case hy13_11 => (go_simp; go_at_call 61; (with_reducible refine (HCM.out W hSW).mono ?_); rintro e w1 ⟨rfl, he1⟩; exact hK.out _ (hSW.trans he1)))
     try simp only [lays]
     (refine pr 12 (oi := ⟨some 170, .binOp .lss 3 (.tmp 169) (.const (.int .i64 0)) 3, 4, "zsortanyfunc.go:441", #[⟨11, .data⟩], none⟩) (v := ?_) rfl (by kernel_rfl) (by rfl) ?h ?_; case h => (intro W hSW; go_simp <;> with_reducible rfl))
     try simp only [lays]
     (refine pr 13 (oi := ⟨some 171, .unOp .not 4 (.tmp 170), 4, "zsortanyfunc.go:441", #[⟨12, .data⟩], none⟩) (v := ?_) rfl (by kernel_rfl) (by rfl) ?h ?_; case h => (intro W hSW; go_simp <;> with_reducible rfl))
     try simp only [lays]
     refine Plan.done (by kernel_rfl) (fun W hSW => ?_)
     have HD2 := Lib.hid (RowS.ext HD.out hSW)
     clear HD HCM L1 L2 hSW HVX HVY hz uw
     go_wp2_with fail
     go_roundw
     case rel => exact ⟨q + 1, r, by go_num, rfl, by omega, by omega, hrh, Lib.hid (.inr (by have := HL.out; rw [HU.out] at this; rw [show nn - (q + 1) = nn - 1 - q from by omega, show q + 1 - 1 = q from by omega]; exact this)), HJ, HD2⟩
     case measure => simp [intOf]; omega
   ·obtain rfl : r = s := by omega
    have i1 : ¬ (r : Int) < (r : Int) := by omega
    obtain ⟨s, hs⟩ : ∃ s, s = r := ⟨_, rfl⟩
    subst hs
    obtain ⟨e, he⟩ : ∃ e, e = nn - s := ⟨_, rfl⟩
    have e0 : (nn : Int) - (s : Int) = (e : Int) := by have := HNN.out; have := HLH.out; omega
    have hen : e ≤ n := by have := HNN.out; have := HLH.out; omega
    have HQ := Lib.hid (show a ≤ s ∧ s ≤ m ∧ m ≤ e ∧ e ≤ b ∧ s + e = M + m ∧ b ≤ d.size by have := HNN.out; have := HLH.out; have := HSZ.out; omega)
    have HLS := Lib.hid (show s ≤ M by have := HLH.out; omega)
    have HAA := Lib.hid (show s = a ∨ e = b ∨ ltSg d[e]! d[s - 1]! = false from by
     rcases HI.out with h | h
     ·have := HLH.out; omega
     ·rw [← he] at h; exact .inr (.inr h))
    have HBB := Lib.hid (show s = m ∨ e = m ∨ ltSg d[e - 1]! d[s]! = true from by
     rcases HJ.out with h | h
     ·have := HLH.out; have := HNN.out; omega
     ·rw [show nn - 1 - s = e - 1 from by omega] at h; exact .inr (.inr h))
    have HPARTS := Lib.hid (fun d1 (R : Rot s m e d d1) => sym_parts ltSg_swo HS1.out HS2.out HQ.out.1 HQ.out.2.1 HQ.out.2.2.1 HQ.out.2.2.2.1 HQ.out.2.2.2.2.1 HAA.out HBB.out R)
    clear he HI HJ
    by_cases z1 : s < m
    ·by_cases z2 : m < e
     ·have z1i : (s : Int) < (m : Int) := by omega
      have z2i : (m : Int) < (e : Int) := by omega
      have HC1 := Lib.hid (rotate_any (.func (.func 61) #[] #[]) w0 wr base _ n c d HD.out s m e z1 z2 (by have := HQ.out; omega) hn hc)
      go_wp2_with fail
      refine HC1.out.mono ?_
      rintro ev w1 ⟨rfl, d1, h1, r1⟩
      have HD1 := Lib.hid h1
      have HR1 := Lib.hid r1
      clear h1 r1 HC1
      have HP1 := Lib.hid (HPARTS.out d1 HR1.out)
      by_cases y1 : a < s
      ·by_cases y2 : s < M
       ·have y1i : (a : Int) < (s : Int) := by omega
        have y2i : (s : Int) < (M : Int) := by omega
        have HC2 := Lib.hid (ih w0 w1 base _ n c d1 HD1.out a s M (by have := HN.out; omega) y1 y2 (by omega) hn hc HP1.out.1 HP1.out.2.1)
        go_wp2_with fail
        refine HC2.out.mono ?_
        rintro ev w2 ⟨rfl, d2, h2, p2, s2⟩
        have HD2 := Lib.hid h2
        have HP2 := Lib.hid (And.intro p2 s2)
        clear h2 p2 s2 HC2
        by_cases x1 : M < e
        ·by_cases x2 : e < b
         ·have x1i : (M : Int) < (e : Int) := by omega
          have x2i : (e : Int) < (b : Int) := by omega
          have HC3 := Lib.hid (ih w0 w2 base _ n c d2 HD2.out M e b (by have := HN.out; omega) x1 x2 hb hn hc (sorted_far HP2.out.1 HP1.out.2.2.1 (.inr (Nat.le_refl _))) (sorted_far HP2.out.1 HP1.out.2.2.2.1 (.inr (by have := HQ.out; omega))))
          go_wp2_with fail
          refine HC3.out.mono ?_
          rintro ev w3 ⟨rfl, d3, h3, p3, s3⟩
          have HD3 := Lib.hid h3
          have HP3 := Lib.hid (And.intro p3 s3)
          clear h3 p3 s3 HC3
          go_wp2_with fail
          go_end0
          exact ⟨rfl, d3, HD3.out, (sym_final ltSg_swo HQ.out.1 HQ.out.2.1 HQ.out.2.2.1 HQ.out.2.2.2.1 HQ.out.2.2.2.2.1 HQ.out.2.2.2.2.2 HAA.out HBB.out HS1.out HS2.out HR1.out HP2.out.1 HP2.out.2 HP3.out.1 HP3.out.2)⟩
         ·have x1i : (M : Int) < (e : Int) := by omega
          have x2i : ¬ (e : Int) < (b : Int) := by omega
          obtain ⟨d3, hd3⟩ : ∃ d3, d3 = d2 := ⟨_, rfl⟩
          have HD3 := Lib.hid (show RowV w0 w2 base _ n c d3 from by rw [hd3]; exact HD2.out)
          have HP3 := Lib.hid (show Sort.PermIn M b d2 d3 ∧ Sort.SortedIn ltSg M b d3 from by rw [hd3]; exact ⟨Sort.permIn_refl _ _ _, sym_opt (by omega) (by have := HQ.out; omega) (by have := HQ.out; omega) (sorted_far HP2.out.1 HP1.out.2.2.1 (.inr (Nat.le_refl _))) (sorted_far HP2.out.1 HP1.out.2.2.2.1 (.inr (by have := HQ.out; omega)))⟩)
          clear hd3
          go_wp2_with fail
          go_end0
          exact ⟨rfl, d3, HD3.out, (sym_final ltSg_swo HQ.out.1 HQ.out.2.1 HQ.out.2.2.1 HQ.out.2.2.2.1 HQ.out.2.2.2.2.1 HQ.out.2.2.2.2.2 HAA.out HBB.out HS1.out HS2.out HR1.out HP2.out.1 HP2.out.2 HP3.out.1 HP3.out.2)⟩
        ·have x1i : ¬ (M : Int) < (e : Int) := by omega
         obtain ⟨d3, hd3⟩ : ∃ d3, d3 = d2 := ⟨_, rfl⟩
         have HD3 := Lib.hid (show RowV w0 w2 base _ n c d3 from by rw [hd3]; exact HD2.out)
         have HP3 := Lib.hid (show Sort.PermIn M b d2 d3 ∧ Sort.SortedIn ltSg M b d3 from by rw [hd3]; exact ⟨Sort.permIn_refl _ _ _, sym_opt (by omega) (by have := HQ.out; omega) (by have := HQ.out; omega) (sorted_far HP2.out.1 HP1.out.2.2.1 (.inr (Nat.le_refl _))) (sorted_far HP2.out.1 HP1.out.2.2.2.1 (.inr (by have := HQ.out; omega)))⟩)
         clear hd3
         go_wp2_with fail
         go_end0
         exact ⟨rfl, d3, HD3.out, (sym_final ltSg_swo HQ.out.1 HQ.out.2.1 HQ.out.2.2.1 HQ.out.2.2.2.1 HQ.out.2.2.2.2.1 HQ.out.2.2.2.2.2 HAA.out HBB.out HS1.out HS2.out HR1.out HP2.out.1 HP2.out.2 HP3.out.1 HP3.out.2)⟩
       ·have y1i : (a : Int) < (s : Int) := by omega
        have y2i : ¬ (s : Int) < (M : Int) := by omega
        obtain ⟨d2, hd2⟩ : ∃ d2, d2 = d1 := ⟨_, rfl⟩
        have HD2 := Lib.hid (show RowV w0 w1 base _ n c d2 from by rw [hd2]; exact HD1.out)
        have HP2 := Lib.hid (show Sort.PermIn a M d1 d2 ∧ Sort.SortedIn ltSg a M d2 from by rw [hd2]; exact ⟨Sort.permIn_refl _ _ _, sym_opt (by omega) (by have := HQ.out; omega) (by have := HLS.out; omega) HP1.out.1 HP1.out.2.1⟩)
        clear hd2
        by_cases x1 : M < e
        ·by_cases x2 : e < b
         ·have x1i : (M : Int) < (e : Int) := by omega
          have x2i : (e : Int) < (b : Int) := by omega
          have HC3 := Lib.hid (ih w0 w1 base _ n c d2 HD2.out M e b (by have := HN.out; omega) x1 x2 hb hn hc (sorted_far HP2.out.1 HP1.out.2.2.1 (.inr (Nat.le_refl _))) (sorted_far HP2.out.1 HP1.out.2.2.2.1 (.inr (by have := HQ.out; omega))))
          go_wp2_with fail
          refine HC3.out.mono ?_
          rintro ev w3 ⟨rfl, d3, h3, p3, s3⟩
          have HD3 := Lib.hid h3
          have HP3 := Lib.hid (And.intro p3 s3)
          clear h3 p3 s3 HC3
          go_wp2_with fail
          go_end0
          exact ⟨rfl, d3, HD3.out, (sym_final ltSg_swo HQ.out.1 HQ.out.2.1 HQ.out.2.2.1 HQ.out.2.2.2.1 HQ.out.2.2.2.2.1 HQ.out.2.2.2.2.2 HAA.out HBB.out HS1.out HS2.out HR1.out HP2.out.1 HP2.out.2 HP3.out.1 HP3.out.2)⟩
         ·have x1i : (M : Int) < (e : Int) := by omega
          have x2i : ¬ (e : Int) < (b : Int) := by omega
          obtain ⟨d3, hd3⟩ : ∃ d3, d3 = d2 := ⟨_, rfl⟩
          have HD3 := Lib.hid (show RowV w0 w1 base _ n c d3 from by rw [hd3]; exact HD2.out)
          have HP3 := Lib.hid (show Sort.PermIn M b d2 d3 ∧ Sort.SortedIn ltSg M b d3 from by rw [hd3]; exact ⟨Sort.permIn_refl _ _ _, sym_opt (by omega) (by have := HQ.out; omega) (by have := HQ.out; omega) (sorted_far HP2.out.1 HP1.out.2.2.1 (.inr (Nat.le_refl _))) (sorted_far HP2.out.1 HP1.out.2.2.2.1 (.inr (by have := HQ.out; omega)))⟩)
          clear hd3
          go_wp2_with fail
          go_end0
          exact ⟨rfl, d3, HD3.out, (sym_final ltSg_swo HQ.out.1 HQ.out.2.1 HQ.out.2.2.1 HQ.out.2.2.2.1 HQ.out.2.2.2.2.1 HQ.out.2.2.2.2.2 HAA.out HBB.out HS1.out HS2.out HR1.out HP2.out.1 HP2.out.2 HP3.out.1 HP3.out.2)⟩
        ·have x1i : ¬ (M : Int) < (e : Int) := by omega
         obtain ⟨d3, hd3⟩ : ∃ d3, d3 = d2 := ⟨_, rfl⟩
         have HD3 := Lib.hid (show RowV w0 w1 base _ n c d3 from by rw [hd3]; exact HD2.out)
         have HP3 := Lib.hid (show Sort.PermIn M b d2 d3 ∧ Sort.SortedIn ltSg M b d3 from by rw [hd3]; exact ⟨Sort.permIn_refl _ _ _, sym_opt (by omega) (by have := HQ.out; omega) (by have := HQ.out; omega) (sorted_far HP2.out.1 HP1.out.2.2.1 (.inr (Nat.le_refl _))) (sorted_far HP2.out.1 HP1.out.2.2.2.1 (.inr (by have := HQ.out; omega)))⟩)
         clear hd3
         go_wp2_with fail
         go_end0
         exact ⟨rfl, d3, HD3.out, (sym_final ltSg_swo HQ.out.1 HQ.out.2.1 HQ.out.2.2.1 HQ.out.2.2.2.1 HQ.out.2.2.2.2.1 HQ.out.2.2.2.2.2 HAA.out HBB.out HS1.out HS2.out HR1.out HP2.out.1 HP2.out.2 HP3.out.1 HP3.out.2)⟩
      ·have y1i : ¬ (a : Int) < (s : Int) := by omega
       obtain ⟨d2, hd2⟩ : ∃ d2, d2 = d1 := ⟨_, rfl⟩
       have HD2 := Lib.hid (show RowV w0 w1 base _ n c d2 from by rw [hd2]; exact HD1.out)
       have HP2 := Lib.hid (show Sort.PermIn a M d1 d2 ∧ Sort.SortedIn ltSg a M d2 from by rw [hd2]; exact ⟨Sort.permIn_refl _ _ _, sym_opt (by omega) (by have := HQ.out; omega) (by have := HLS.out; omega) HP1.out.1 HP1.out.2.1⟩)
       clear hd2
       by_cases x1 : M < e
       ·by_cases x2 : e < b
        ·have x1i : (M : Int) < (e : Int) := by omega
         have x2i : (e : Int) < (b : Int) := by omega
         have HC3 := Lib.hid (ih w0 w1 base _ n c d2 HD2.out M e b (by have := HN.out; omega) x1 x2 hb hn hc (sorted_far HP2.out.1 HP1.out.2.2.1 (.inr (Nat.le_refl _))) (sorted_far HP2.out.1 HP1.out.2.2.2.1 (.inr (by have := HQ.out; omega))))
         go_wp2_with fail
         refine HC3.out.mono ?_
         rintro ev w3 ⟨rfl, d3, h3, p3, s3⟩
         have HD3 := Lib.hid h3
         have HP3 := Lib.hid (And.intro p3 s3)
         clear h3 p3 s3 HC3
         go_wp2_with fail
         go_end0
         exact ⟨rfl, d3, HD3.out, (sym_final ltSg_swo HQ.out.1 HQ.out.2.1 HQ.out.2.2.1 HQ.out.2.2.2.1 HQ.out.2.2.2.2.1 HQ.out.2.2.2.2.2 HAA.out HBB.out HS1.out HS2.out HR1.out HP2.out.1 HP2.out.2 HP3.out.1 HP3.out.2)⟩
        ·have x1i : (M : Int) < (e : Int) := by omega
         have x2i : ¬ (e : Int) < (b : Int) := by omega
         obtain ⟨d3, hd3⟩ : ∃ d3, d3 = d2 := ⟨_, rfl⟩
         have HD3 := Lib.hid (show RowV w0 w1 base _ n c d3 from by rw [hd3]; exact HD2.out)
         have HP3 := Lib.hid (show Sort.PermIn M b d2 d3 ∧ Sort.SortedIn ltSg M b d3 from by rw [hd3]; exact ⟨Sort.permIn_refl _ _ _, sym_opt (by omega) (by have := HQ.out; omega) (by have := HQ.out; omega) (sorted_far HP2.out.1 HP1.out.2.2.1 (.inr (Nat.le_refl _))) (sorted_far HP2.out.1 HP1.out.2.2.2.1 (.inr (by have := HQ.out; omega)))⟩)
         clear hd3
         go_wp2_with fail
         go_end0
         exact ⟨rfl, d3, HD3.out, (sym_final ltSg_swo HQ.out.1 HQ.out.2.1 HQ.out.2.2.1 HQ.out.2.2.2.1 HQ.out.2.2.2.2.1 HQ.out.2.2.2.2.2 HAA.out HBB.out HS1.out HS2.out HR1.out HP2.out.1 HP2.out.2 HP3.out.1 HP3.out.2)⟩
       ·have x1i : ¬ (M : Int) < (e : Int) := by omega
        obtain ⟨d3, hd3⟩ : ∃ d3, d3 = d2 := ⟨_, rfl⟩
        have HD3 := Lib.hid (show RowV w0 w1 base _ n c d3 from by rw [hd3]; exact HD2.out)
        have HP3 := Lib.hid (show Sort.PermIn M b d2 d3 ∧ Sort.SortedIn ltSg M b d3 from by rw [hd3]; exact ⟨Sort.permIn_refl _ _ _, sym_opt (by omega) (by have := HQ.out; omega) (by have := HQ.out; omega) (sorted_far HP2.out.1 HP1.out.2.2.1 (.inr (Nat.le_refl _))) (sorted_far HP2.out.1 HP1.out.2.2.2.1 (.inr (by have := HQ.out; omega)))⟩)
        clear hd3
        go_wp2_with fail
        go_end0
        exact ⟨rfl, d3, HD3.out, (sym_final ltSg_swo HQ.out.1 HQ.out.2.1 HQ.out.2.2.1 HQ.out.2.2.2.1 HQ.out.2.2.2.2.1 HQ.out.2.2.2.2.2 HAA.out HBB.out HS1.out HS2.out HR1.out HP2.out.1 HP2.out.2 HP3.out.1 HP3.out.2)⟩
     ·have z1i : (s : Int) < (m : Int) := by omega
      have z2i : ¬ (m : Int) < (e : Int) := by omega
      obtain ⟨d1, hd1⟩ : ∃ d1, d1 = d := ⟨_, rfl⟩
      have HD1 := Lib.hid (show RowV w0 wr base _ n c d1 from by rw [hd1]; exact HD.out)
      have HR1 := Lib.hid (show Rot s m e d d1 from by rw [hd1]; rw [show e = m from by have := HQ.out; omega]; exact Rot.none s m d (by omega))
      clear hd1
      have HP1 := Lib.hid (HPARTS.out d1 HR1.out)
      by_cases y1 : a < s
      ·by_cases y2 : s < M
       ·have y1i : (a : Int) < (s : Int) := by omega
        have y2i : (s : Int) < (M : Int) := by omega
        have HC2 := Lib.hid (ih w0 wr base _ n c d1 HD1.out a s M (by have := HN.out; omega) y1 y2 (by omega) hn hc HP1.out.1 HP1.out.2.1)
        go_wp2_with fail
        refine HC2.out.mono ?_
        rintro ev w2 ⟨rfl, d2, h2, p2, s2⟩
        have HD2 := Lib.hid h2
        have HP2 := Lib.hid (And.intro p2 s2)
        clear h2 p2 s2 HC2
        by_cases x1 : M < e
        ·by_cases x2 : e < b
         ·have x1i : (M : Int) < (e : Int) := by omega
          have x2i : (e : Int) < (b : Int) := by omega
          have HC3 := Lib.hid (ih w0 w2 base _ n c d2 HD2.out M e b (by have := HN.out; omega) x1 x2 hb hn hc (sorted_far HP2.out.1 HP1.out.2.2.1 (.inr (Nat.le_refl _))) (sorted_far HP2.out.1 HP1.out.2.2.2.1 (.inr (by have := HQ.out; omega))))
          go_wp2_with fail
          refine HC3.out.mono ?_
          rintro ev w3 ⟨rfl, d3, h3, p3, s3⟩
          have HD3 := Lib.hid h3
          have HP3 := Lib.hid (And.intro p3 s3)
          clear h3 p3 s3 HC3
          go_wp2_with fail
          go_end0
          exact ⟨rfl, d3, HD3.out, (sym_final ltSg_swo HQ.out.1 HQ.out.2.1 HQ.out.2.2.1 HQ.out.2.2.2.1 HQ.out.2.2.2.2.1 HQ.out.2.2.2.2.2 HAA.out HBB.out HS1.out HS2.out HR1.out HP2.out.1 HP2.out.2 HP3.out.1 HP3.out.2)⟩
         ·have x1i : (M : Int) < (e : Int) := by omega
          have x2i : ¬ (e : Int) < (b : Int) := by omega
          obtain ⟨d3, hd3⟩ : ∃ d3, d3 = d2 := ⟨_, rfl⟩
          have HD3 := Lib.hid (show RowV w0 w2 base _ n c d3 from by rw [hd3]; exact HD2.out)
          have HP3 := Lib.hid (show Sort.PermIn M b d2 d3 ∧ Sort.SortedIn ltSg M b d3 from by rw [hd3]; exact ⟨Sort.permIn_refl _ _ _, sym_opt (by omega) (by have := HQ.out; omega) (by have := HQ.out; omega) (sorted_far HP2.out.1 HP1.out.2.2.1 (.inr (Nat.le_refl _))) (sorted_far HP2.out.1 HP1.out.2.2.2.1 (.inr (by have := HQ.out; omega)))⟩)
          clear hd3
          go_wp2_with fail
          go_end0
          exact ⟨rfl, d3, HD3.out, (sym_final ltSg_swo HQ.out.1 HQ.out.2.1 HQ.out.2.2.1 HQ.out.2.2.2.1 HQ.out.2.2.2.2.1 HQ.out.2.2.2.2.2 HAA.out HBB.out HS1.out HS2.out HR1.out HP2.out.1 HP2.out.2 HP3.out.1 HP3.out.2)⟩
        ·have x1i : ¬ (M : Int) < (e : Int) := by omega
         obtain ⟨d3, hd3⟩ : ∃ d3, d3 = d2 := ⟨_, rfl⟩
         have HD3 := Lib.hid (show RowV w0 w2 base _ n c d3 from by rw [hd3]; exact HD2.out)
         have HP3 := Lib.hid (show Sort.PermIn M b d2 d3 ∧ Sort.SortedIn ltSg M b d3 from by rw [hd3]; exact ⟨Sort.permIn_refl _ _ _, sym_opt (by omega) (by have := HQ.out; omega) (by have := HQ.out; omega) (sorted_far HP2.out.1 HP1.out.2.2.1 (.inr (Nat.le_refl _))) (sorted_far HP2.out.1 HP1.out.2.2.2.1 (.inr (by have := HQ.out; omega)))⟩)
         clear hd3
         go_wp2_with fail
         go_end0
         exact ⟨rfl, d3, HD3.out, (sym_final ltSg_swo HQ.out.1 HQ.out.2.1 HQ.out.2.2.1 HQ.out.2.2.2.1 HQ.out.2.2.2.2.1 HQ.out.2.2.2.2.2 HAA.out HBB.out HS1.out HS2.out HR1.out HP2.out.1 HP2.out.2 HP3.out.1 HP3.out.2)⟩
       ·have y1i : (a : Int) < (s : Int) := by omega
        have y2i : ¬ (s : Int) < (M : Int) := by omega
        obtain ⟨d2, hd2⟩ : ∃ d2, d2 = d1 := ⟨_, rfl⟩
        have HD2 := Lib.hid (show RowV w0 wr base _ n c d2 from by rw [hd2]; exact HD1.out)
        have HP2 := Lib.hid (show Sort.PermIn a M d1 d2 ∧ Sort.SortedIn ltSg a M d2 from by rw [hd2]; exact ⟨Sort.permIn_refl _ _ _, sym_opt (by omega) (by have := HQ.out; omega) (by have := HLS.out; omega) HP1.out.1 HP1.out.2.1⟩)
        clear hd2
        by_cases x1 : M < e
        ·by_cases x2 : e < b
         ·have x1i : (M : Int) < (e : Int) := by omega
          have x2i : (e : Int) < (b : Int) := by omega
          have HC3 := Lib.hid (ih w0 wr base _ n c d2 HD2.out M e b (by have := HN.out; omega) x1 x2 hb hn hc (sorted_far HP2.out.1 HP1.out.2.2.1 (.inr (Nat.le_refl _))) (sorted_far HP2.out.1 HP1.out.2.2.2.1 (.inr (by have := HQ.out; omega))))
          go_wp2_with fail
          refine HC3.out.mono ?_
          rintro ev w3 ⟨rfl, d3, h3, p3, s3⟩
          have HD3 := Lib.hid h3
          have HP3 := Lib.hid (And.intro p3 s3)
          clear h3 p3 s3 HC3
          go_wp2_with fail
          go_end0
          exact ⟨rfl, d3, HD3.out, (sym_final ltSg_swo HQ.out.1 HQ.out.2.1 HQ.out.2.2.1 HQ.out.2.2.2.1 HQ.out.2.2.2.2.1 HQ.out.2.2.2.2.2 HAA.out HBB.out HS1.out HS2.out HR1.out HP2.out.1 HP2.out.2 HP3.out.1 HP3.out.2)⟩
         ·have x1i : (M : Int) < (e : Int) := by omega
          have x2i : ¬ (e : Int) < (b : Int) := by omega
          obtain ⟨d3, hd3⟩ : ∃ d3, d3 = d2 := ⟨_, rfl⟩
          have HD3 := Lib.hid (show RowV w0 wr base _ n c d3 from by rw [hd3]; exact HD2.out)
          have HP3 := Lib.hid (show Sort.PermIn M b d2 d3 ∧ Sort.SortedIn ltSg M b d3 from by rw [hd3]; exact ⟨Sort.permIn_refl _ _ _, sym_opt (by omega) (by have := HQ.out; omega) (by have := HQ.out; omega) (sorted_far HP2.out.1 HP1.out.2.2.1 (.inr (Nat.le_refl _))) (sorted_far HP2.out.1 HP1.out.2.2.2.1 (.inr (by have := HQ.out; omega)))⟩)
          clear hd3
          go_wp2_with fail
          go_end0
          exact ⟨rfl, d3, HD3.out, (sym_final ltSg_swo HQ.out.1 HQ.out.2.1 HQ.out.2.2.1 HQ.out.2.2.2.1 HQ.out.2.2.2.2.1 HQ.out.2.2.2.2.2 HAA.out HBB.out HS1.out HS2.out HR1.out HP2.out.1 HP2.out.2 HP3.out.1 HP3.out.2)⟩
        ·have x1i : ¬ (M : Int) < (e : Int) := by omega
         obtain ⟨d3, hd3⟩ : ∃ d3, d3 = d2 := ⟨_, rfl⟩
         have HD3 := Lib.hid (show RowV w0 wr base _ n c d3 from by rw [hd3]; exact HD2.out)
         have HP3 := Lib.hid (show Sort.PermIn M b d2 d3 ∧ Sort.SortedIn ltSg M b d3 from by rw [hd3]; exact ⟨Sort.permIn_refl _ _ _, sym_opt (by omega) (by have := HQ.out; omega) (by have := HQ.out; omega) (sorted_far HP2.out.1 HP1.out.2.2.1 (.inr (Nat.le_refl _))) (sorted_far HP2.out.1 HP1.out.2.2.2.1 (.inr (by have := HQ.out; omega)))⟩)
         clear hd3
         go_wp2_with fail
         go_end0
         exact ⟨rfl, d3, HD3.out, (sym_final ltSg_swo HQ.out.1 HQ.out.2.1 HQ.out.2.2.1 HQ.out.2.2.2.1 HQ.out.2.2.2.2.1 HQ.out.2.2.2.2.2 HAA.out HBB.out HS1.out HS2.out HR1.out HP2.out.1 HP2.out.2 HP3.out.1 HP3.out.2)⟩
      ·have y1i : ¬ (a : Int) < (s : Int) := by omega
       obtain ⟨d2, hd2⟩ : ∃ d2, d2 = d1 := ⟨_, rfl⟩
       have HD2 := Lib.hid (show RowV w0 wr base _ n c d2 from by rw [hd2]; exact HD1.out)
       have HP2 := Lib.hid (show Sort.PermIn a M d1 d2 ∧ Sort.SortedIn ltSg a M d2 from by rw [hd2]; exact ⟨Sort.permIn_refl _ _ _, sym_opt (by omega) (by have := HQ.out; omega) (by have := HLS.out; omega) HP1.out.1 HP1.out.2.1⟩)
       clear hd2
       by_cases x1 : M < e
       ·by_cases x2 : e < b
        ·have x1i : (M : Int) < (e : Int) := by omega
         have x2i : (e : Int) < (b : Int) := by omega
         have HC3 := Lib.hid (ih w0 wr base _ n c d2 HD2.out M e b (by have := HN.out; omega) x1 x2 hb hn hc (sorted_far HP2.out.1 HP1.out.2.2.1 (.inr (Nat.le_refl _))) (sorted_far HP2.out.1 HP1.out.2.2.2.1 (.inr (by have := HQ.out; omega))))
         go_wp2_with fail
         refine HC3.out.mono ?_
         rintro ev w3 ⟨rfl, d3, h3, p3, s3⟩
         have HD3 := Lib.hid h3
         have HP3 := Lib.hid (And.intro p3 s3)
         clear h3 p3 s3 HC3
         go_wp2_with fail
         go_end0
         exact ⟨rfl, d3, HD3.out, (sym_final ltSg_swo HQ.out.1 HQ.out.2.1 HQ.out.2.2.1 HQ.out.2.2.2.1 HQ.out.2.2.2.2.1 HQ.out.2.2.2.2.2 HAA.out HBB.out HS1.out HS2.out HR1.out HP2.out.1 HP2.out.2 HP3.out.1 HP3.out.2)⟩
        ·have x1i : (M : Int) < (e : Int) := by omega
         have x2i : ¬ (e : Int) < (b : Int) := by omega
         obtain ⟨d3, hd3⟩ : ∃ d3, d3 = d2 := ⟨_, rfl⟩
         have HD3 := Lib.hid (show RowV w0 wr base _ n c d3 from by rw [hd3]; exact HD2.out)
         have HP3 := Lib.hid (show Sort.PermIn M b d2 d3 ∧ Sort.SortedIn ltSg M b d3 from by rw [hd3]; exact ⟨Sort.permIn_refl _ _ _, sym_opt (by omega) (by have := HQ.out; omega) (by have := HQ.out; omega) (sorted_far HP2.out.1 HP1.out.2.2.1 (.inr (Nat.le_refl _))) (sorted_far HP2.out.1 HP1.out.2.2.2.1 (.inr (by have := HQ.out; omega)))⟩)
         clear hd3
         go_wp2_with fail
         go_end0
         exact ⟨rfl, d3, HD3.out, (sym_final ltSg_swo HQ.out.1 HQ.out.2.1 HQ.out.2.2.1 HQ.out.2.2.2.1 HQ.out.2.2.2.2.1 HQ.out.2.2.2.2.2 HAA.out HBB.out HS1.out HS2.out HR1.out HP2.out.1 HP2.out.2 HP3.out.1 HP3.out.2)⟩
       ·have x1i : ¬ (M : Int) < (e : Int) := by omega
        obtain ⟨d3, hd3⟩ : ∃ d3, d3 = d2 := ⟨_, rfl⟩
        have HD3 := Lib.hid (show RowV w0 wr base _ n c d3 from by rw [hd3]; exact HD2.out)
        have HP3 := Lib.hid (show Sort.PermIn M b d2 d3 ∧ Sort.SortedIn ltSg M b d3 from by rw [hd3]; exact ⟨Sort.permIn_refl _ _ _, sym_opt (by omega) (by have := HQ.out; omega) (by have := HQ.out; omega) (sorted_far HP2.out.1 HP1.out.2.2.1 (.inr (Nat.le_refl _))) (sorted_far HP2.out.1 HP1.out.2.2.2.1 (.inr (by have := HQ.out; omega)))⟩)
        clear hd3
        go_wp2_with fail
        go_end0
        exact ⟨rfl, d3, HD3.out, (sym_final ltSg_swo HQ.out.1 HQ.out.2.1 HQ.out.2.2.1 HQ.out.2.2.2.1 HQ.out.2.2.2.2.1 HQ.out.2.2.2.2.2 HAA.out HBB.out HS1.out HS2.out HR1.out HP2.out.1 HP2.out.2 HP3.out.1 HP3.out.2)⟩
    ·have z1i : ¬ (s : Int) < (m : Int) := by omega
     obtain ⟨d1, hd1⟩ : ∃ d1, d1 = d := ⟨_, rfl⟩
     have HD1 := Lib.hid (show RowV w0 wr base _ n c d1 from by rw [hd1]; exact HD.out)
     have HR1 := Lib.hid (show Rot s m e d d1 from by rw [hd1]; rw [show s = m from by have := HQ.out; omega]; exact Rot.none_r m e d (by have := HQ.out; omega))
     clear hd1
     have HP1 := Lib.hid (HPARTS.out d1 HR1.out)
     by_cases y1 : a < s
     ·by_cases y2 : s < M
      ·have y1i : (a : Int) < (s : Int) := by omega
       have y2i : (s : Int) < (M : Int) := by omega
       have HC2 := Lib.hid (ih w0 wr base _ n c d1 HD1.out a s M (by have := HN.out; omega) y1 y2 (by omega) hn hc HP1.out.1 HP1.out.2.1)
       go_wp2_with fail
       refine HC2.out.mono ?_
       rintro ev w2 ⟨rfl, d2, h2, p2, s2⟩
       have HD2 := Lib.hid h2
       have HP2 := Lib.hid (And.intro p2 s2)
       clear h2 p2 s2 HC2
       by_cases x1 : M < e
       ·by_cases x2 : e < b
        ·have x1i : (M : Int) < (e : Int) := by omega
         have x2i : (e : Int) < (b : Int) := by omega
         have HC3 := Lib.hid (ih w0 w2 base _ n c d2 HD2.out M e b (by have := HN.out; omega) x1 x2 hb hn hc (sorted_far HP2.out.1 HP1.out.2.2.1 (.inr (Nat.le_refl _))) (sorted_far HP2.out.1 HP1.out.2.2.2.1 (.inr (by have := HQ.out; omega))))
         go_wp2_with fail
         refine HC3.out.mono ?_
         rintro ev w3 ⟨rfl, d3, h3, p3, s3⟩
         have HD3 := Lib.hid h3
         have HP3 := Lib.hid (And.intro p3 s3)
         clear h3 p3 s3 HC3
         go_wp2_with fail
         go_end0
         exact ⟨rfl, d3, HD3.out, (sym_final ltSg_swo HQ.out.1 HQ.out.2.1 HQ.out.2.2.1 HQ.out.2.2.2.1 HQ.out.2.2.2.2.1 HQ.out.2.2.2.2.2 HAA.out HBB.out HS1.out HS2.out HR1.out HP2.out.1 HP2.out.2 HP3.out.1 HP3.out.2)⟩
        ·have x1i : (M : Int) < (e : Int) := by omega
         have x2i : ¬ (e : Int) < (b : Int) := by omega
         obtain ⟨d3, hd3⟩ : ∃ d3, d3 = d2 := ⟨_, rfl⟩
         have HD3 := Lib.hid (show RowV w0 w2 base _ n c d3 from by rw [hd3]; exact HD2.out)
         have HP3 := Lib.hid (show Sort.PermIn M b d2 d3 ∧ Sort.SortedIn ltSg M b d3 from by rw [hd3]; exact ⟨Sort.permIn_refl _ _ _, sym_opt (by omega) (by have := HQ.out; omega) (by have := HQ.out; omega) (sorted_far HP2.out.1 HP1.out.2.2.1 (.inr (Nat.le_refl _))) (sorted_far HP2.out.1 HP1.out.2.2.2.1 (.inr (by have := HQ.out; omega)))⟩)
         clear hd3
         go_wp2_with fail
         go_end0
         exact ⟨rfl, d3, HD3.out, (sym_final ltSg_swo HQ.out.1 HQ.out.2.1 HQ.out.2.2.1 HQ.out.2.2.2.1 HQ.out.2.2.2.2.1 HQ.out.2.2.2.2.2 HAA.out HBB.out HS1.out HS2.out HR1.out HP2.out.1 HP2.out.2 HP3.out.1 HP3.out.2)⟩
       ·have x1i : ¬ (M : Int) < (e : Int) := by omega
        obtain ⟨d3, hd3⟩ : ∃ d3, d3 = d2 := ⟨_, rfl⟩
        have HD3 := Lib.hid (show RowV w0 w2 base _ n c d3 from by rw [hd3]; exact HD2.out)
        have HP3 := Lib.hid (show Sort.PermIn M b d2 d3 ∧ Sort.SortedIn ltSg M b d3 from by rw [hd3]; exact ⟨Sort.permIn_refl _ _ _, sym_opt (by omega) (by have := HQ.out; omega) (by have := HQ.out; omega) (sorted_far HP2.out.1 HP1.out.2.2.1 (.inr (Nat.le_refl _))) (sorted_far HP2.out.1 HP1.out.2.2.2.1 (.inr (by have := HQ.out; omega)))⟩)
        clear hd3
        go_wp2_with fail
        go_end0
        exact ⟨rfl, d3, HD3.out, (sym_final ltSg_swo HQ.out.1 HQ.out.2.1 HQ.out.2.2.1 HQ.out.2.2.2.1 HQ.out.2.2.2.2.1 HQ.out.2.2.2.2.2 HAA.out HBB.out HS1.out HS2.out HR1.out HP2.out.1 HP2.out.2 HP3.out.1 HP3.out.2)⟩
      ·have y1i : (a : Int) < (s : Int) := by omega
       have y2i : ¬ (s : Int) < (M : Int) := by omega
       obtain ⟨d2, hd2⟩ : ∃ d2, d2 = d1 := ⟨_, rfl⟩
       have HD2 := Lib.hid (show RowV w0 wr base _ n c d2 from by rw [hd2]; exact HD1.out)
       have HP2 := Lib.hid (show Sort.PermIn a M d1 d2 ∧ Sort.SortedIn ltSg a M d2 from by rw [hd2]; exact ⟨Sort.permIn_refl _ _ _, sym_opt (by omega) (by have := HQ.out; omega) (by have := HLS.out; omega) HP1.out.1 HP1.out.2.1⟩)
       clear hd2
       by_cases x1 : M < e
       ·by_cases x2 : e < b
        ·have x1i : (M : Int) < (e : Int) := by omega
         have x2i : (e : Int) < (b : Int) := by omega
         have HC3 := Lib.hid (ih w0 wr base _ n c d2 HD2.out M e b (by have := HN.out; omega) x1 x2 hb hn hc (sorted_far HP2.out.1 HP1.out.2.2.1 (.inr (Nat.le_refl _))) (sorted_far HP2.out.1 HP1.out.2.2.2.1 (.inr (by have := HQ.out; omega))))
         go_wp2_with fail
         refine HC3.out.mono ?_
         rintro ev w3 ⟨rfl, d3, h3, p3, s3⟩
         have HD3 := Lib.hid h3
         have HP3 := Lib.hid (And.intro p3 s3)
         clear h3 p3 s3 HC3
         go_wp2_with fail
         go_end0
         exact ⟨rfl, d3, HD3.out, (sym_final ltSg_swo HQ.out.1 HQ.out.2.1 HQ.out.2.2.1 HQ.out.2.2.2.1 HQ.out.2.2.2.2.1 HQ.out.2.2.2.2.2 HAA.out HBB.out HS1.out HS2.out HR1.out HP2.out.1 HP2.out.2 HP3.out.1 HP3.out.2)⟩
        ·have x1i : (M : Int) < (e : Int) := by omega
         have x2i : ¬ (e : Int) < (b : Int) := by omega
         obtain ⟨d3, hd3⟩ : ∃ d3, d3 = d2 := ⟨_, rfl⟩
         have HD3 := Lib.hid (show RowV w0 wr base _ n c d3 from by rw [hd3]; exact HD2.out)
         have HP3 := Lib.hid (show Sort.PermIn M b d2 d3 ∧ Sort.SortedIn ltSg M b d3 from by rw [hd3]; exact ⟨Sort.permIn_refl _ _ _, sym_opt (by omega) (by have := HQ.out; omega) (by have := HQ.out; omega) (sorted_far HP2.out.1 HP1.out.2.2.1 (.inr (Nat.le_refl _))) (sorted_far HP2.out.1 HP1.out.2.2.2.1 (.inr (by have := HQ.out; omega)))⟩)
         clear hd3
         go_wp2_with fail
         go_end0
         exact ⟨rfl, d3, HD3.out, (sym_final ltSg_swo HQ.out.1 HQ.out.2.1 HQ.out.2.2.1 HQ.out.2.2.2.1 HQ.out.2.2.2.2.1 HQ.out.2.2.2.2.2 HAA.out HBB.out HS1.out HS2.out HR1.out HP2.out.1 HP2.out.2 HP3.out.1 HP3.out.2)⟩
       ·have x1i : ¬ (M : Int) < (e : Int) := by omega
        obtain ⟨d3, hd3⟩ : ∃ d3, d3 = d2 := ⟨_, rfl⟩
        have HD3 := Lib.hid (show RowV w0 wr base _ n c d3 from by rw [hd3]; exact HD2.out)
        have HP3 := Lib.hid (show Sort.PermIn M b d2 d3 ∧ Sort.SortedIn ltSg M b d3 from by rw [hd3]; exact ⟨Sort.permIn_refl _ _ _, sym_opt (by omega) (by have := HQ.out; omega) (by have := HQ.out; omega) (sorted_far HP2.out.1 HP1.out.2.2.1 (.inr (Nat.le_refl _))) (sorted_far HP2.out.1 HP1.out.2.2.2.1 (.inr (by have := HQ.out; omega)))⟩)
        clear hd3
        go_wp2_with fail
        go_end0
        exact ⟨rfl, d3, HD3.out, (sym_final ltSg_swo HQ.out.1 HQ.out.2.1 HQ.out.2.2.1 HQ.out.2.2.2.1 HQ.out.2.2.2.2.1 HQ.out.2.2.2.2.2 HAA.out HBB.out HS1.out HS2.out HR1.out HP2.out.1 HP2.out.2 HP3.out.1 HP3.out.2)⟩
     ·have y1i : ¬ (a : Int) < (s : Int) := by omega
      obtain ⟨d2, hd2⟩ : ∃ d2, d2 = d1 := ⟨_, rfl⟩
      have HD2 := Lib.hid (show RowV w0 wr base _ n c d2 from by rw [hd2]; exact HD1.out)
      have HP2 := Lib.hid (show Sort.PermIn a M d1 d2 ∧ Sort.SortedIn ltSg a M d2 from by rw [hd2]; exact ⟨Sort.permIn_refl _ _ _, sym_opt (by omega) (by have := HQ.out; omega) (by have := HLS.out; omega) HP1.out.1 HP1.out.2.1⟩)
      clear hd2
      by_cases x1 : M < e
      ·by_cases x2 : e < b
       ·have x1i : (M : Int) < (e : Int) := by omega
        have x2i : (e : Int) < (b : Int) := by omega
        have HC3 := Lib.hid (ih w0 wr base _ n c d2 HD2.out M e b (by have := HN.out; omega) x1 x2 hb hn hc (sorted_far HP2.out.1 HP1.out.2.2.1 (.inr (Nat.le_refl _))) (sorted_far HP2.out.1 HP1.out.2.2.2.1 (.inr (by have := HQ.out; omega))))
        go_wp2_with fail
        refine HC3.out.mono ?_
        rintro ev w3 ⟨rfl, d3, h3, p3, s3⟩
        have HD3 := Lib.hid h3
        have HP3 := Lib.hid (And.intro p3 s3)
        clear h3 p3 s3 HC3
        go_wp2_with fail
        go_end0
        exact ⟨rfl, d3, HD3.out, (sym_final ltSg_swo HQ.out.1 HQ.out.2.1 HQ.out.2.2.1 HQ.out.2.2.2.1 HQ.out.2.2.2.2.1 HQ.out.2.2.2.2.2 HAA.out HBB.out HS1.out HS2.out HR1.out HP2.out.1 HP2.out.2 HP3.out.1 HP3.out.2)⟩
       ·have x1i : (M : Int) < (e : Int) := by omega
        have x2i : ¬ (e : Int) < (b : Int) := by omega
        obtain ⟨d3, hd3⟩ : ∃ d3, d3 = d2 := ⟨_, rfl⟩
        have HD3 := Lib.hid (show RowV w0 wr base _ n c d3 from by rw [hd3]; exact HD2.out)
        have HP3 := Lib.hid (show Sort.PermIn M b d2 d3 ∧ Sort.SortedIn ltSg M b d3 from by rw [hd3]; exact ⟨Sort.permIn_refl _ _ _, sym_opt (by omega) (by have := HQ.out; omega) (by have := HQ.out; omega) (sorted_far HP2.out.1 HP1.out.2.2.1 (.inr (Nat.le_refl _))) (sorted_far HP2.out.1 HP1.out.2.2.2.1 (.inr (by have := HQ.out; omega)))⟩)
        clear hd3
        go_wp2_with fail
        go_end0
        exact ⟨rfl, d3, HD3.out, (sym_final ltSg_swo HQ.out.1 HQ.out.2.1 HQ.out.2.2.1 HQ.out.2.2.2.1 HQ.out.2.2.2.2.1 HQ.out.2.2.2.2.2 HAA.out HBB.out HS1.out HS2.out HR1.out HP2.out.1 HP2.out.2 HP3.out.1 HP3.out.2)⟩
      ·have x1i : ¬ (M : Int) < (e : Int) := by omega
       obtain ⟨d3, hd3⟩ : ∃ d3, d3 = d2 := ⟨_, rfl⟩
       have HD3 := Lib.hid (show RowV w0 wr base _ n c d3 from by rw [hd3]; exact HD2.out)
       have HP3 := Lib.hid (show Sort.PermIn M b d2 d3 ∧ Sort.SortedIn ltSg M b d3 from by rw [hd3]; exact ⟨Sort.permIn_refl _ _ _, sym_opt (by omega) (by have := HQ.out; omega) (by have := HQ.out; omega) (sorted_far HP2.out.1 HP1.out.2.2.1 (.inr (Nat.le_refl _))) (sorted_far HP2.out.1 HP1.out.2.2.2.1 (.inr (by have := HQ.out; omega)))⟩)
       clear hd3
       go_wp2_with fail
       go_end0
       exact ⟨rfl, d3, HD3.out, (sym_final ltSg_swo HQ.out.1 HQ.out.2.1 HQ.out.2.2.1 HQ.out.2.2.2.1 HQ.out.2.2.2.2.1 HQ.out.2.2.2.2.2 HAA.out HBB.out HS1.out HS2.out HR1.out HP2.out.1 HP2.out.2 HP3.out.1 HP3.out.2)⟩
end Go.Proofs.YtbfepgjeecndiaaGreat
