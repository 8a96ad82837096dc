/- The order of names (the program's). -/
import Derived.Test.YtbfepgjeecndiaaGreatJ08
import Derived.Test.YtbfepgjeecndiaaGreatJ11
namespace Go.Proofs.YtbfepgjeecndiaaGreat
set_option maxRecDepth 100000
set_option maxHeartbeats 8000000
open Go.RowKit
set_option linter.unusedVariables false
set_option linter.unusedSimpArgs false
attribute [local go_sem ↓] Go.wp_at_zero Go.wp_at_succ
theorem hLess_any (x y : UInt64) (w : World) : Calls Tryz.prog 115 #[.agg (nmc x), .agg (nmc y)] w fun e w' => e = .returned (.bool (decide (un x < un y))) ∧ Ext w w' := by
 have hE := ((Ext.refl w).alloc' (.cells (nmc x) 44)).alloc' (.cells (nmc y) 44)
 have HB1 := Lib.hid ((Blk.new w 44 (nmc x)).alloc (.cells (nmc y) 44))
 have HB2 := Lib.hid (show Blk ((w.alloc (.cells (nmc x) 44)).alloc (.cells (nmc y) 44)) (w.heap.size + 1) 44 (nmc y) from Blk.newAt _ _ _ _ (by simp))
 have HE := Lib.hid hE
 obtain ⟨W0, hW0⟩ : ∃ W0, (w.alloc (.cells (nmc x) 44)).alloc (.cells (nmc y) 44) = W0 := ⟨_, rfl⟩
 rw [hW0] at HB1 HB2 HE
 have HC := Lib.hid (fun (W : World) (h : Ext W0 W) => And.intro (cells8 (HB1.out.ext h)) (cells8 (HB2.out.ext h)))
 clear hE
 have hq := fun W => run_eqN x y W
 obtain ⟨c1, c2⟩ := HC.out W0 (Ext.refl _)
 by_cases hxy : x = y
 ·have HV := Lib.hid (show decide (un x < un y) = false by rw [hxy]; simp)
  rw [decide_eq_true hxy] at hq
  clear hxy
  go_enter Tryz.func115, Tryz.ntmps115
  go_wp2_with fail
  go_ret
  exact ⟨by rw [HV.out]; rfl, HE.out⟩
 ·rw [decide_eq_false hxy] at hq
  clear hxy
  go_enter Tryz.func115, Tryz.ntmps115
  go_wp2_with fail
  clear c1 c2 hq
  refine wp_region_plan (S := fun W => Ext W0 W) (by kernel_rfl) (by kernel_rfl) ((Ext.refl W0).drew') ?_
  (refine pr 0 (oi := ⟨some 8, .load 44 (.tmp 2), 44, "hash.go:47", #[], none⟩) (v := ?_) rfl (by kernel_rfl) (by rfl) ?h ?_; case h => (intro W hSW; obtain ⟨c1, c2⟩ := HC.out W hSW; go_simp <;> with_reducible rfl))
  try simp only [lays]
  (refine plan_take (i := 1) (oi := ⟨some 9, .call { callee := .value (.func 96), args := #[.tmp 8], argTypes := #[44] }, 61, "hash.go:47", #[⟨0, .data⟩], none⟩) (v := ?_) rfl (by kernel_rfl) (by kernel_rfl) (fx_call (by rfl) (fun W hSW K hK => ?hy1)) ?_; case hy1 => (go_simp; go_at_call 96; (with_reducible refine (number_any x W).mono ?_); rintro e w1 ⟨rfl, he1⟩; exact hK.out _ (hSW.trans he1)))
  try simp only [lays]
  (refine pr 2 (oi := ⟨some 10, .load 44 (.tmp 3), 44, "hash.go:47", #[], none⟩) (v := ?_) rfl (by kernel_rfl) (by rfl) ?h ?_; case h => (intro W hSW; obtain ⟨c1, c2⟩ := HC.out W hSW; go_simp <;> with_reducible rfl))
  try simp only [lays]
  (refine plan_take (i := 3) (oi := ⟨some 11, .call { callee := .value (.func 96), args := #[.tmp 10], argTypes := #[44] }, 61, "hash.go:47", #[⟨2, .data⟩, ⟨1, .chain⟩], none⟩) (v := ?_) rfl (by kernel_rfl) (by kernel_rfl) (fx_call (by rfl) (fun W hSW K hK => ?hy3)) ?_; case hy3 => (go_simp; go_at_call 96; (with_reducible refine (number_any y W).mono ?_); rintro e w1 ⟨rfl, he1⟩; exact hK.out _ (hSW.trans he1)))
  try simp only [lays]
  (refine pr 4 (oi := ⟨some 12, .binOp .lss 61 (.tmp 9) (.tmp 11) 61, 4, "hash.go:47", #[⟨1, .data⟩, ⟨3, .data⟩], none⟩) (v := ?_) rfl (by kernel_rfl) (by rfl) ?h ?_; case h => (intro W hSW; go_simp <;> with_reducible rfl))
  try simp only [lays]
  (refine pr 5 (oi := ⟨some 4, .assign (.tmp 12), 4, "hash.go:47", #[⟨4, .data⟩, ⟨3, .chain⟩, ⟨0, .phase⟩, ⟨1, .phase⟩, ⟨2, .phase⟩, ⟨3, .phase⟩, ⟨4, .phase⟩], none⟩) (v := ?_) rfl (by kernel_rfl) (by rfl) ?h ?_; case h => (intro W hSW; go_simp <;> with_reducible rfl))
  try simp only [lays]
  refine Plan.done (by kernel_rfl) (fun W hSW => ?_)
  have HX := Lib.hid (HE.out.trans hSW)
  clear hSW
  go_wp2_with fail
  go_ret
  exact ⟨rfl, HX.out⟩
end Go.Proofs.YtbfepgjeecndiaaGreat

/- What Decode accepts is the encoding of what it gives; and nothing may follow it or lack. -/
namespace Go.Proofs.YtbfepgjeecndiaaGreat
open Go.RowKit
set_option linter.unusedVariables false
set_option linter.unusedSimpArgs false
theorem rRest_some {k : Nat} {s : Option (List UInt8)} {r : List UInt8} (h : rRest k s = some r) : ∃ p, s = some p ∧ k ≤ p.length ∧ r = p.drop k := by
 cases s with
 | none => cases h
 | some p =>
  simp only [rRest] at h
  split at h
  ·cases h
  ·injection h with h
   exact ⟨p, rfl, by omega, h.symm⟩
theorem be_back {k : Nat} {s : Option (List UInt8)} {r : List UInt8} (hk : k ≤ 8) (h : rRest k s = some r) : s = some (beI k (rNum k s) ++ r) := by
 obtain ⟨p, rfl, hp, rfl⟩ := rRest_some h
 have hl : (p.take k).length = k := by rw [List.length_take]; omega
 have e : beI k (rNum k (some p)) = p.take k := by
  simp only [rNum, if_neg (show ¬ p.length < k by omega)]
  unfold beI
  have hlt := beNat_lt (p.take k)
  rw [hl] at hlt
  have h2 : 256 ^ k ≤ 256 ^ 8 := Nat.pow_le_pow_right (by omega) hk
  have e2 : ((beNat (p.take k) : Int) % 18446744073709551616).toNat = beNat (p.take k) := by omega
  rw [e2]
  have := beBytes_beNat (p.take k)
  rwa [hl] at this
 rw [e, List.take_append_drop]
theorem blob_back {s : Option (List UInt8)} {r : List UInt8} (h : rAft s = some r) : s = some (blob (rBlob s) ++ r) ∧ (rBlob s).length ≤ 65535 := by
 cases s with
 | none => cases h
 | some p =>
  simp only [rAft] at h
  by_cases hb : blobOk p = true
  ·rw [if_pos hb] at h
   injection h with h
   subst h
   simp only [rBlob, if_pos hb]
   unfold blobOk at hb
   rw [decide_eq_true_eq] at hb
   obtain ⟨h1, h2⟩ := hb
   have hl : ((p.drop 2).take (beNat (p.take 2))).length = beNat (p.take 2) := by rw [List.length_take, List.length_drop]; omega
   have ht : (p.take 2).length = 2 := by rw [List.length_take]; omega
   have hlt := beNat_lt (p.take 2)
   rw [ht] at hlt
   refine ⟨?_, by rw [hl]; omega⟩
   have e : beI 2 (((p.drop 2).take (beNat (p.take 2))).length : Int) = p.take 2 := by
    rw [hl]
    unfold beI
    have e2 : ((beNat (p.take 2) : Int) % 18446744073709551616).toNat = beNat (p.take 2) := by omega
    rw [e2]
    have := beBytes_beNat (p.take 2)
    rwa [ht] at this
   unfold blob
   rw [e, List.append_assoc, ← List.drop_drop, List.take_append_drop, List.take_append_drop]
  ·rw [if_neg hb] at h; cases h
end Go.Proofs.YtbfepgjeecndiaaGreat

/- An element put where it belongs, by its place (plain). -/
namespace Go.Proofs.YtbfepgjeecndiaaGreat
set_option linter.unusedVariables false
set_option linter.unusedSimpArgs false
section
variable {β : Type} [DecidableEq β] {lt : β → β → Bool}
theorem insO_at (x : β) : ∀ (L : List β) (k : Nat), k ≤ L.length → (∀ j (h : j < k) (hl : j < L.length), lt L[j] x = true) → (∀ (h : k < L.length), lt L[k] x = false ∧ L[k] ≠ x) → insO lt x L = L.take k ++ x :: L.drop k
 | [], 0, _, _, _ => rfl
 | y :: r, 0, _, _, h2 => by
  obtain ⟨h3, h4⟩ := h2 (by simp)
  simp only [List.getElem_cons_zero] at h3 h4
  unfold insO
  rw [if_neg (by rw [h3]; simp), if_neg h4]; rfl
 | y :: r, k + 1, hk, h1, h2 => by
  have h0 := h1 0 (by omega) (by simp)
  simp only [List.getElem_cons_zero] at h0
  have ih := insO_at x r k (by simpa using hk) (fun j hj hl => h1 (j + 1) (by omega) (by simpa using hl)) (fun h => h2 (by simpa using h))
  unfold insO
  rw [if_pos h0, ih]; rfl
theorem insO_eq (x : β) : ∀ (L : List β) (k : Nat) (hk : k < L.length), (∀ j (h : j < k) (hl : j < L.length), lt L[j] x = true) → lt L[k] x = false → L[k] = x → insO lt x L = L
 | [], _, hk, _, _, _ => by simp at hk
 | y :: r, 0, _, _, h2, h3 => by
  simp only [List.getElem_cons_zero] at h2 h3
  unfold insO
  rw [if_neg (by rw [h2]; simp), if_pos h3]
 | y :: r, k + 1, hk, h1, h2, h3 => by
  have h0 := h1 0 (by omega) (by simp)
  simp only [List.getElem_cons_zero] at h0
  have ih := insO_eq x r k (by simpa using hk) (fun j hj hl => h1 (j + 1) (by omega) (by simpa using hl)) h2 h3
  unfold insO
  rw [if_pos h0, ih]
theorem canonO_snoc (L : List β) (x : β) : canonO lt (L ++ [x]) = insO lt x (canonO lt L) := by unfold canonO insAll; rw [List.foldl_append]; rfl
end
end Go.Proofs.YtbfepgjeecndiaaGreat

/- SameView (the reference's). -/
namespace Go.Proofs.YtbfepgjeecndiaaGreat
set_option maxRecDepth 100000
set_option maxHeartbeats 4000000
open Go.RowKit
set_option linter.unusedVariables false
set_option linter.unusedSimpArgs false
attribute [local go_sem ↓] Go.wp_at_zero Go.wp_at_succ
theorem yields_loadSg {ops : Array Oper} {S : World → Prop} {o : Oper} {a : Act} (hw : Region.wanted o (yielded ops a.tmps) = true) (x : Operand) (ho : o.op = .load 48 x) (b of : Nat) (hx : a.eval x = .pointer (some ⟨b, of, none⟩)) (R : SgR) (hS : ∀ w, S w → w.rangeAt b of (sgL R)) : YieldsIf Tryz.prog ops S o (.agg (sgA R)) a := by
 have := yieldsIf_load_mid (P := Tryz.prog) (S := S) hw 48 x ho b of hx (sgL R) _ hS Tryz.underlying48 rfl (by rw [sgL_length]; kernel_rfl)
 rw [sgL_arr] at this
 exact this
theorem sameView_any (A : Option Addr) (n c : Nat) (L : List SgR) (B : Option Addr) (m d : Nat) (X : List TeR) (A' : Option Addr) (n' c' : Nat) (L' : List SgR) (B' : Option Addr) (m' d' : Nat) (X' : List TeR) (w : World) (h1 : SlG w A n c L) (h2 : SlG w B m d X) (h1' : SlG w A' n' c' L') (h2' : SlG w B' m' d' X') :
  Calls Tryz.prog 12 #[.agg (vwA A n c B m d), .agg (vwA A' n' c' B' m' d')] w fun e w' => e = .returned (.bool (eqVw L X L' X')) ∧ Ext w w' := by
 have hle := h1.le
 have hcap := h1.cap
 have hle' := h1'.le
 have hcap' := h1'.cap
 have HL := Lib.hid h1.len
 have HM := Lib.hid h1'.len
 have hE := ((Ext.refl w).alloc' (.cells (vwA A n c B m d) 25)).alloc' (.cells (vwA A' n' c' B' m' d') 25)
 have HB1 := Lib.hid ((Blk.new w 25 (vwA A n c B m d)).alloc (.cells (vwA A' n' c' B' m' d') 25))
 have HB2 := Lib.hid (show Blk ((w.alloc (.cells (vwA A n c B m d) 25)).alloc (.cells (vwA A' n' c' B' m' d') 25)) (w.heap.size + 1) 25 (vwA A' n' c' B' m' d') from Blk.newAt _ _ _ _ (by simp))
 have HE := Lib.hid hE
 have HS := Lib.hid (h1.ext hE)
 have HS' := Lib.hid (h1'.ext hE)
 have HG := Lib.hid (fun (W : World) (h : Ext w W) => sameTexts_any B m d X B' m' d' X' W (h2.ext h) (h2'.ext h))
 have HV := Lib.hid (show eqVw L X L' X' = (eqG eqSg L L' && eqG eqTe X X') from rfl)
 obtain ⟨w0, hw0⟩ : ∃ w0, (w.alloc (.cells (vwA A n c B m d) 25)).alloc (.cells (vwA A' n' c' B' m' d') 25) = w0 := ⟨_, rfl⟩
 rw [hw0] at HB1 HB2 HE HS HS'
 have HQ := Lib.hid (fun (W : World) (h : Ext w0 W) => (⟨vw_facts (HB1.out.ext h), vw_facts (HB2.out.ext h)⟩ : (W.cell? ⟨w.heap.size, 0, none⟩ = some (.slice A n c) ∧ W.cell? ⟨w.heap.size, 1, none⟩ = some (.slice B m d)) ∧ (W.cell? ⟨w.heap.size + 1, 0, none⟩ = some (.slice A' n' c') ∧ W.cell? ⟨w.heap.size + 1, 1, none⟩ = some (.slice B' m' d'))))
 obtain ⟨⟨p1, p2⟩, q1, q2⟩ := HQ.out _ (Ext.refl _)
 clear h1 h2 h1' h2' hE
 by_cases hn : n = n'
 ·subst hn
  have HCA := Lib.hid (show n = 0 ∨ ((∃ b o, A = some ⟨b, o, none⟩ ∧ w0.rangeAt b o (gcs L) ∧ b < w0.heap.size) ∧ ∃ b o, A' = some ⟨b, o, none⟩ ∧ w0.rangeAt b o (gcs L') ∧ b < w0.heap.size) from by
   rcases Nat.eq_zero_or_pos n with h0 | h0
   ·exact .inl h0
   ·exact .inr ⟨HS.out.at h0, HS'.out.at h0⟩)
  go_enter Tryz.func12, Tryz.ntmps12
  go_wp2_with fail
  clear p1 p2 q1 q2
  go_loopw [5] (fun i wr => ∃ k : Nat, k ≤ n ∧ i = .int .i64 (k : Int) ∧ Hid (∀ j, j < k → eqSg (nthG L j) (nthG L' j) = true) ∧ Hid (Ext w0 wr)) (fun i _ => n - (intOf i).toNat)
  case atStart => exact ⟨0, Nat.zero_le _, rfl, Lib.hid (fun j hj => by omega), Lib.hid (Ext.refl _)⟩
  case round =>
   obtain ⟨k, hk, rfl, HP, HX⟩ := hrel
   obtain ⟨⟨p1, p2⟩, q1, q2⟩ := HQ.out _ HX.out
   by_cases hlt : k < n
   ·rcases HCA.out with h0 | ⟨⟨b, of, rfl, hr, hb⟩, b', of', rfl, hr', hb'⟩
    ·omega
    have hr1 : wr.rangeAt b (of + k * 23) (sgL (nthG L k)) := el_at (rangeAt_keep hr (HX.out.block b hb)) (k := k) (by rw [HL.out]; exact hlt)
    have hr2 : wr.rangeAt b' (of' + k * 23) (sgL (nthG L' k)) := el_at (rangeAt_keep hr' (HX.out.block b' hb')) (k := k) (by rw [HM.out]; exact hlt)
    clear hr hr' hb hb' HCA
    have HOK := Lib.hid (HS.out.nth hlt : (nthG L k).ok w0)
    have HOK' := Lib.hid (HS'.out.nth hlt : (nthG L' k).ok w0)
    have HY := Lib.hid (fun (hx : eqSg (nthG L k) (nthG L' k) = true) => show ∀ j, j < k + 1 → eqSg (nthG L j) (nthG L' j) = true from fun j hj => by
     rcases Nat.lt_or_ge j k with h | h
     ·exact HP.out j h
     ·obtain rfl : j = k := by omega
      exact hx)
    have HN := Lib.hid (fun (hx : eqSg (nthG L k) (nthG L' k) = false) => show eqVw L X L' X' = false by rw [HV.out, eqG_at (by rw [HL.out]; exact hlt) hx, Bool.false_and])
    have i0 : (0 : Int) ≤ (k : Int) := by omega
    have i1 : (k : Int) < (n : Int) := by omega
    obtain ⟨R, hR⟩ : ∃ R, nthG L k = R := ⟨_, rfl⟩
    obtain ⟨Q, hQ⟩ : ∃ Q, nthG L' k = Q := ⟨_, rfl⟩
    rw [hR, hQ] at HY HN
    rw [hR] at hr1 HOK
    rw [hQ] at hr2 HOK'
    clear hR hQ
    have HR1 := Lib.hid (fun (W : World) (h : Ext wr W) => rangeAt_keep hr1 (h.block b (rangeAt_lt hr1 (by intro e; cases e))))
    have HR2 := Lib.hid (fun (W : World) (h : Ext wr W) => rangeAt_keep hr2 (h.block b' (rangeAt_lt hr2 (by intro e; cases e))))
    clear hr1 hr2
    go_wp2_with fail
    clear p1 p2 q1 q2
    refine wp_region_plan (S := fun W => Ext wr W) (by kernel_rfl) (by kernel_rfl) ((Ext.refl wr).drew') ?_
    (refine pr 0 (oi := ⟨some 20, .fieldAddr 25 (.tmp 2) 0, 0, "snapshot.go:72", #[], none⟩) (v := ?_) rfl (by kernel_rfl) (by rfl) ?h ?_; case h => (intro W hSW; go_simp <;> with_reducible rfl))
    try simp only [lays]
    (refine pr 1 (oi := ⟨some 21, .load 22 (.tmp 20), 22, "snapshot.go:72", #[⟨0, .data⟩], none⟩) (v := ?_) rfl (by kernel_rfl) (by rfl) ?h ?_; case h => (intro W hSW; obtain ⟨⟨s1, s2⟩, s3, s4⟩ := HQ.out W (HX.out.trans hSW); go_simp <;> with_reducible rfl))
    try simp only [lays]
    (refine pr 2 (oi := ⟨some 22, .move (.tmp 5), 3, "snapshot.go:72", #[], none⟩) (v := ?_) rfl (by kernel_rfl) (by rfl) ?h ?_; case h => (intro W hSW; go_simp <;> with_reducible rfl))
    try simp only [lays]
    (refine pr 3 (oi := ⟨some 23, .indexAddr 22 (.tmp 21) (.tmp 22), 0, "snapshot.go:72", #[⟨1, .data⟩, ⟨2, .data⟩], none⟩) (v := ?_) rfl (by kernel_rfl) (by rfl) ?h ?_; case h => (intro W hSW; go_simp <;> with_reducible rfl))
    try simp only [lays]
    (refine plan_take (i := 4) (oi := ⟨some 24, .load 48 (.tmp 23), 48, "snapshot.go:72", #[⟨3, .data⟩], none⟩) (v := .agg (sgA R)) rfl (by kernel_rfl) (by kernel_rfl) (fx_read ?hy4) ?_; case hy4 => (refine yields_loadSg ?hw (.tmp 23) rfl b (of + k * 23) ?hx R HR1.out; (case hw => rfl); (case hx => rfl)))
    try simp only [lays]
    (refine pr 5 (oi := ⟨some 25, .fieldAddr 25 (.tmp 3) 0, 0, "snapshot.go:72", #[], none⟩) (v := ?_) rfl (by kernel_rfl) (by rfl) ?h ?_; case h => (intro W hSW; go_simp <;> with_reducible rfl))
    try simp only [lays]
    (refine pr 6 (oi := ⟨some 26, .load 22 (.tmp 25), 22, "snapshot.go:72", #[⟨5, .data⟩], none⟩) (v := ?_) rfl (by kernel_rfl) (by rfl) ?h ?_; case h => (intro W hSW; obtain ⟨⟨s1, s2⟩, s3, s4⟩ := HQ.out W (HX.out.trans hSW); go_simp <;> with_reducible rfl))
    try simp only [lays]
    (refine pr 7 (oi := ⟨some 27, .move (.tmp 5), 3, "snapshot.go:72", #[], none⟩) (v := ?_) rfl (by kernel_rfl) (by rfl) ?h ?_; case h => (intro W hSW; go_simp <;> with_reducible rfl))
    try simp only [lays]
    (refine pr 8 (oi := ⟨some 28, .indexAddr 22 (.tmp 26) (.tmp 27), 0, "snapshot.go:72", #[⟨6, .data⟩, ⟨7, .data⟩], none⟩) (v := ?_) rfl (by kernel_rfl) (by rfl) ?h ?_; case h => (intro W hSW; go_simp <;> with_reducible rfl))
    try simp only [lays]
    (refine plan_take (i := 9) (oi := ⟨some 29, .load 48 (.tmp 28), 48, "snapshot.go:72", #[⟨8, .data⟩], none⟩) (v := .agg (sgA Q)) rfl (by kernel_rfl) (by kernel_rfl) (fx_read ?hy9) ?_; case hy9 => (refine yields_loadSg ?hw (.tmp 28) rfl b' (of' + k * 23) ?hx Q HR2.out; (case hw => rfl); (case hx => rfl)))
    try simp only [lays]
    (refine plan_take (i := 10) (oi := ⟨some 30, .call { callee := .value (.func 27), args := #[.tmp 24, .tmp 29], argTypes := #[48, 48] }, 4, "snapshot.go:72", #[⟨4, .data⟩, ⟨9, .data⟩], none⟩) (v := ?_) rfl (by kernel_rfl) (by kernel_rfl) (fx_call (by rfl) (fun W hSW K hK => ?hy10)) ?_; case hy10 => (go_simp; go_at_call 27; (with_reducible refine (sameSigned_any R Q W (SgR.ok.ext HOK.out (HX.out.trans hSW)) (SgR.ok.ext HOK'.out (HX.out.trans hSW))).mono ?_); rintro e w1 ⟨rfl, he1⟩; exact hK.out _ (hSW.trans he1)))
    try simp only [lays]
    (refine pr 11 (oi := ⟨some 31, .unOp .not 4 (.tmp 30), 4, "snapshot.go:72", #[⟨10, .data⟩], none⟩) (v := ?_) rfl (by kernel_rfl) (by rfl) ?h ?_; case h => (intro W hSW; go_simp <;> with_reducible rfl))
    try simp only [lays]
    refine Plan.done (by kernel_rfl) (fun W hSW => ?_)
    have HX1 := Lib.hid (HX.out.trans hSW)
    clear hSW
    cases hv : eqSg R Q with
    | true =>
     have HY' := Lib.hid (HY.out hv)
     clear hv
     go_wp2_with fail
     go_roundw
     case rel => exact ⟨k + 1, by omega, by go_num, HY', HX1⟩
     case measure => simp [intOf]; omega
    | false =>
     have HN' := Lib.hid (HN.out hv)
     clear hv
     go_wp2_with fail
     go_ret
     exact ⟨by rw [HN'.out]; rfl, HE.out.trans HX1.out⟩
   ·obtain rfl : k = n := by omega
    have HV' := Lib.hid (show eqVw L X L' X' = eqG eqTe X X' by rw [HV.out, eqG_yes (by rw [HL.out, HM.out]) (fun j hj => HP.out j (by rw [HL.out] at hj; exact hj)), Bool.true_and])
    go_wp2_with fail
    refine (HG.out _ (HE.out.trans HX.out)).mono ?_
    rintro e w2 ⟨rfl, he2⟩
    have HX2 := Lib.hid (HE.out.trans (HX.out.trans he2))
    clear he2
    go_wp2_with fail
    go_ret
    exact ⟨by rw [HV'.out]; rfl, HX2.out⟩
 ·have HV' := Lib.hid (show eqVw L X L' X' = false by rw [HV.out, eqG_len (by rw [HL.out, HM.out]; exact hn), Bool.false_and])
  have d1 : ((n : Int) == (n' : Int)) = false := by simp; omega
  have d2 : decide ((n : Int) = (n' : Int)) = false := decide_eq_false (by omega)
  clear hn
  go_enter Tryz.func12, Tryz.ntmps12
  go_wp2_with fail
  go_ret
  exact ⟨by rw [HV'.out]; rfl, HE.out⟩
end Go.Proofs.YtbfepgjeecndiaaGreat
