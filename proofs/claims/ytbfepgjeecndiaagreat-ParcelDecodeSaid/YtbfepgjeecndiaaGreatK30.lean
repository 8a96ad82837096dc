/- The reference's codec: Uint, Bytes. -/
import Derived.Test.YtbfepgjeecndiaaGreatK20
import Derived.Test.YtbfepgjeecndiaaGreatK22
import Derived.Test.YtbfepgjeecndiaaGreatK23
namespace Go.Proofs.YtbfepgjeecndiaaGreat
set_option maxRecDepth 100000
set_option maxHeartbeats 2000000
open Go.RowKit
set_option linter.unusedVariables false
set_option linter.unusedSimpArgs false
attribute [local go_sem ↓] Go.wp_at_zero Go.wp_at_succ
theorem refUint_yes (A : Option Addr) (n c : Nat) (l : List UInt8) (at_ width : Nat) (w : World) (h : SlB w A n c l) (h1 : 1 ≤ width) (h8 : width ≤ 8) (hf : at_ + width ≤ n) (hn : n ≤ 140737488355328) :
  Calls Tryz.prog 54 #[.slice A n c, .int .i64 (at_ : Int), .int .i64 (width : Int)] w fun e w' => e = .returned (.tuple #[.int .u64 (numAt l at_ width : Int), .bool true]) ∧ w = w' := by
 have hle := h.le
 have hcap := h.cap
 have hlen := h.len
 have e1 : decide ((width : Int) < 1) = false := decide_eq_false (by omega)
 have e2 : decide ((8 : Int) < (width : Int)) = false := decide_eq_false (by omega)
 have e3 : decide ((at_ : Int) < 0) = false := decide_eq_false (by omega)
 have e4 : decide ((n : Int) - (width : Int) < (at_ : Int)) = false := decide_eq_false (by omega)
 have e5 : (0 : Int) ≤ (at_ : Int) := by omega
 obtain ⟨b, o, rfl, hra, hbl⟩ := h.at (by omega)
 go_enter Tryz.func54, Tryz.ntmps54
 go_wp2_with fail
 go_loop [8, 9] (fun v i => ∃ k : Nat, k ≤ width ∧ i = .int .i64 (k : Int) ∧ v = .int .u64 ((numAt l at_ k : Nat) : Int)) (fun _ i => width - (intOf i).toNat)
 case atStart => exact ⟨0, by omega, rfl, by simp [numAt, beNat]⟩
 case round =>
  obtain ⟨k, hk, rfl, rfl⟩ := hrel
  by_cases hlt : k < width
  ·have hcell := byte_at hra (at_ + k) (by omega)
   rw [← Nat.add_assoc] at hcell
   have hd : (l.drop at_)[k]'(by simp; omega) = l[at_ + k]'(by omega) := by simp
   have HS := Lib.hid (show numAt l at_ (k + 1) = numAt l at_ k * 256 + (l[at_ + k]'(by omega)).toNat by unfold numAt; rw [take_at _ _ (by simp; omega), beNat_snoc, hd])
   have hor := or_byte' (numAt l at_ k) (l[at_ + k]'(by omega)) (pow_le7 _ k (beNat_take_lt _ _ (by simp; omega)) (by omega))
   clear hd
   generalize numAt l at_ k = a at *
   generalize (l[at_ + k]'(by omega)) = x at *
   have hcell' : w.cell? ⟨b, o + (at_ + k), none⟩ = some (.int .u8 (x.toNat : Int)) := by rw [← Nat.add_assoc]; exact hcell
   have i1 : (at_ : Int) + (k : Int) < (n : Int) := by omega
   have i2 : (0 : Int) ≤ (at_ : Int) + (k : Int) := by omega
   go_wp2_with fail
   go_round
   case rel => exact ⟨k + 1, by omega, by go_num, by rw [HS.out]; go_num⟩
   case measure => simp [intOf]; omega
  ·obtain rfl : k = width := by omega
   go_wp2_with fail
   go_ret2
   exact ⟨rfl, rfl⟩
theorem refUint_no (A : Option Addr) (n c : Nat) (at_ width : Nat) (w : World) (hn : n ≤ 140737488355328) (h1 : 1 ≤ width) (h8 : width ≤ 8) (hk : at_ ≤ n) (hf : ¬ at_ + width ≤ n) :
  Calls Tryz.prog 54 #[.slice A n c, .int .i64 (at_ : Int), .int .i64 (width : Int)] w fun e w' => e = .returned (.tuple #[.int .u64 0, .bool false]) ∧ w = w' := by
 have e1 : decide ((width : Int) < 1) = false := decide_eq_false (by omega)
 have e2 : decide ((8 : Int) < (width : Int)) = false := decide_eq_false (by omega)
 have e3 : decide ((at_ : Int) < 0) = false := decide_eq_false (by omega)
 have e4 : decide ((n : Int) - (width : Int) < (at_ : Int)) = true := decide_eq_true (by omega)
 go_enter Tryz.func54, Tryz.ntmps54
 go_wp2_with fail
 go_ret2
 exact ⟨rfl, rfl⟩
theorem refBytes_no1 (A : Option Addr) (n c : Nat) (k : Nat) (w : World) (hn : n ≤ 140737488355328) (hk : k ≤ n) (hf : ¬ k + 2 ≤ n) :
  Calls Tryz.prog 56 #[.slice A n c, .int .i64 (k : Int)] w (BytesNo w) := by
 have HU := Lib.hid (refUint_no A n c k 2 w hn (by omega) (by omega) hk hf)
 go_enter Tryz.func56, Tryz.ntmps56
 go_wp2_with fail
 refine HU.out.mono ?_
 rintro e w1 ⟨rfl, rfl⟩
 go_wp2_with fail
 go_ret3
 exact ⟨rfl, rfl⟩
theorem refBytes_no2 (A : Option Addr) (n c : Nat) (l : List UInt8) (k : Nat) (w : World) (h : SlB w A n c l) (hn : n ≤ 140737488355328) (hf : k + 2 ≤ n) (hg : ¬ k + 2 + numAt l k 2 ≤ n) :
  Calls Tryz.prog 56 #[.slice A n c, .int .i64 (k : Int)] w (BytesNo w) := by
 have HU := Lib.hid (refUint_yes A n c l k 2 w h (by omega) (by omega) hf hn)
 have hv := numAt_small l k 2 (by omega)
 obtain ⟨v, hve⟩ : ∃ v, numAt l k 2 = v := ⟨_, rfl⟩
 rw [hve] at HU hg hv
 have e1 : decide ((n : Int) - (k : Int) - 2 < (v : Int)) = true := decide_eq_true (by omega)
 have hvw : IntKind.i64.wrap (v : Int) = (v : Int) := by rw [IntKind.wrap_i64]; omega
 clear hve h hg
 go_enter Tryz.func56, Tryz.ntmps56
 go_wp2_with fail
 refine HU.out.mono ?_
 rintro e w1 ⟨rfl, rfl⟩
 go_wp2_with fail
 go_ret3
 exact ⟨rfl, rfl⟩
end Go.Proofs.YtbfepgjeecndiaaGreat
/- The reference's codec: Bytes that succeeds. -/
namespace Go.Proofs.YtbfepgjeecndiaaGreat
open Go.RowKit
set_option linter.unusedVariables false
set_option linter.unusedSimpArgs false
attribute [local go_sem ↓] Go.wp_at_zero Go.wp_at_succ
theorem run_buildB0 (w : World) : (Instr.buildSlice 28 0 #[]).run Tryz.prog w = .ok (.slice (some ⟨w.heap.size, 0, none⟩) 0 0) (w.alloc (.cells #[] 5)) := by kernel_rfl
attribute [local go_sem] run_buildB0 in
theorem refBytes_yes (A : Option Addr) (n c : Nat) (l : List UInt8) (k : Nat) (w : World) (h : SlB w A n c l) (hn : n ≤ 140737488355328) (hf : k + 2 ≤ n) (hg : k + 2 + numAt l k 2 ≤ n) :
  Calls Tryz.prog 56 #[.slice A n c, .int .i64 (k : Int)] w (BytesYes w (numAt l k 2) (k + 2 + numAt l k 2) ((l.drop (k + 2)).take (numAt l k 2))) := by
 have HU := Lib.hid (refUint_yes A n c l k 2 w h (by omega) (by omega) hf hn)
 have hle := h.le
 have hcap := h.cap
 have hlen := h.len
 obtain ⟨v, hve⟩ : ∃ v, numAt l k 2 = v := ⟨_, rfl⟩
 obtain ⟨K, hK⟩ : ∃ K, k + 2 = K := ⟨_, rfl⟩
 rw [hve] at HU hg ⊢
 rw [hK] at hg ⊢
 obtain ⟨E, hE⟩ : ∃ E, K + v = E := ⟨_, rfl⟩
 rw [hE] at hg ⊢
 have hKi : (k : Int) + 2 = (K : Int) := by omega
 have hEi : (K : Int) + (v : Int) = (E : Int) := by omega
 have hvb : 0 + v ≤ 140737488355328 := by omega
 have hKE : (K : Int) ≤ (E : Int) := by omega
 have hEc : (E : Int) ≤ (c : Int) := by omega
 have hEK : (E : Int) - (K : Int) = (v : Int) := by omega
 have hEKn : E - K = v := by omega
 have e1 : decide ((n : Int) - (k : Int) - 2 < (v : Int)) = false := decide_eq_false (by omega)
 have hvw : IntKind.i64.wrap (v : Int) = (v : Int) := by rw [IntKind.wrap_i64]; omega
 obtain ⟨b, o, rfl, hra, hbl⟩ := h.at (by omega)
 have hn0 : OwnB (w.alloc (.cells #[] 5)) w.heap.size 5 (some ⟨w.heap.size, 0, none⟩) 0 0 [] := OwnB.made w w.heap.size #[] 0 w.heap.size rfl (Nat.le_refl _) (by omega) rfl
 have hB0 := (Ext.refl w).alloc' (.cells #[] 5)
 by_cases hc : c = K
 ·have hv0 : v = 0 := by omega
  subst hv0
  subst hc
  obtain rfl : E = c := by omega
  clear hve h hg hK hE hra hlen hEi hEK hEKn hKE hEc
  rw [show ((0 : Nat) : Int) = 0 from rfl] at HU e1
  clear hvw
  go_enter Tryz.func56, Tryz.ntmps56
  go_wp2_with fail
  refine HU.out.mono ?_
  rintro e w1 ⟨rfl, rfl⟩
  go_wp2_with (at_builtin; go_must (refine wpList_appB bytesE rfl (.tmp 33) (.tmp 38) rfl w.heap.size _ 0 0 [] rfl hn0 _ 0 0 [] rfl (SlB.empty _ _ 0 (by omega)) (by omega) (by simp) w hB0 ?_))
  intro A2 c2 w2 hO2 hE2 hs2
  have HO2 := Lib.hid hO2
  clear hO2
  go_wp2_with fail
  go_ret3
  exact ⟨A2, c2, by simp, by simpa using HO2.out, hE2⟩
 ·have hs0 := (h.cut (k := K) (by omega) (by omega)).upto (k := v) (by omega)
  simp only [Option.map_some, Addr.add_mid] at hs0
  have HS := Lib.hid (hs0.ext hB0)
  clear hve h hg hK hE hra hlen hs0
  go_enter Tryz.func56, Tryz.ntmps56
  go_wp2_with fail
  refine HU.out.mono ?_
  rintro e w1 ⟨rfl, rfl⟩
  go_wp2_with (at_builtin; go_must (refine wpList_appB bytesE rfl (.tmp 33) (.tmp 38) rfl w.heap.size _ 0 0 [] rfl hn0 (some ⟨b, o + K, none⟩) v (c - K) ((l.drop K).take v) rfl HS.out hvb (by simp) w hB0 ?_))
  intro A2 c2 w2 hO2 hE2 hs2
  have HO2 := Lib.hid hO2
  clear hO2
  go_wp2_with fail
  go_ret3
  exact ⟨A2, c2, by simp, by simpa using HO2.out, hE2⟩
end Go.Proofs.YtbfepgjeecndiaaGreat
/- The reference's cursor: num, str, done. -/
namespace Go.Proofs.YtbfepgjeecndiaaGreat
open Go.RowKit
set_option linter.unusedVariables false
set_option linter.unusedSimpArgs false
attribute [local go_sem ↓] Go.wp_at_zero Go.wp_at_succ
variable {D : Nat}
end Go.Proofs.YtbfepgjeecndiaaGreat
/- The reference's cursor: name. -/
namespace Go.Proofs.YtbfepgjeecndiaaGreat
open Go.RowKit
set_option linter.unusedVariables false
set_option linter.unusedSimpArgs false
attribute [local go_sem ↓] Go.wp_at_zero Go.wp_at_succ
variable {D : Nat}
end Go.Proofs.YtbfepgjeecndiaaGreat
/- The state of the reference's cursor.op. -/
namespace Go.Proofs.YtbfepgjeecndiaaGreat
open Go.RowKit
set_option linter.unusedVariables false
set_option linter.unusedSimpArgs false
attribute [local go_sem ↓] Go.wp_at_zero Go.wp_at_succ
end Go.Proofs.YtbfepgjeecndiaaGreat

/- The signed vote that bytes tell (the reference's DecodeSigned). -/
namespace Go.Proofs.YtbfepgjeecndiaaGreat
set_option maxRecDepth 100000
set_option maxHeartbeats 8000000
open Go.RowKit
set_option linter.unusedVariables false
set_option linter.unusedSimpArgs false
attribute [local go_sem ↓] Go.wp_at_zero Go.wp_at_succ
theorem rSgDec_short (A : Option Addr) (n c : Nat) (l : List UInt8) (w : World) (hS : SlB w A n c l) (hn : n < 393) : Calls Tryz.prog 55 #[.slice A n c] w (SdOut w l) := by
 have hcap := hS.cap
 have hle := hS.le
 have HC := Lib.hid (show sdC l = 2 from by unfold sdC; rw [hS.len]; rw [if_pos hn])
 have HE := Lib.hid ((Ext.refl w).alloc' (.cells sg0 48))
 have HB := Lib.hid (Blk.new w 48 sg0)
 have ht : (w.alloc (.cells sg0 48)).there w.heap.size 0 23 := there_of_blk HB.out
 have hst := blk_whole (ds := sgA zeroS) HB.out rfl
 have i1 : ((n : Int) < 393) := by omega
 
 clear hS
 go_enter Tryz.func55, Tryz.ntmps55
 go_wp2_with (first | (with_reducible refine wpList_storeS0 rfl (.tmp 2) (.tmp 9) rfl w.heap.size rfl rfl ht ?_))
 exact bodyPost_ret (v := .tuple #[.agg (sgA zeroS), .int .i64 2]) (retCV rfl _ _ w.heap.size _ _ rfl rfl (run_loadVar_row _ _ _ _ _ (0, 0) _ hst Tryz.underlying48 rfl (by kernel_rfl))) rfl ⟨zeroS, by rw [HC.out], zeroS_ok _, Below.setCells' HE.out (Nat.le_refl _) _ _, fun h => by rw [HC.out] at h; exact absurd h (by decide), fun _ => rfl, OwnB.nil _ _ _⟩
theorem rSgDec_long (A : Option Addr) (n c : Nat) (l : List UInt8) (w : World) (hS : SlB w A n c l) (hn : 393 < n) : Calls Tryz.prog 55 #[.slice A n c] w (SdOut w l) := by
 have hcap := hS.cap
 have hle := hS.le
 have HC := Lib.hid (show sdC l = 3 from by unfold sdC; rw [hS.len]; rw [if_neg (by omega), if_pos hn])
 have HE := Lib.hid ((Ext.refl w).alloc' (.cells sg0 48))
 have HB := Lib.hid (Blk.new w 48 sg0)
 have ht : (w.alloc (.cells sg0 48)).there w.heap.size 0 23 := there_of_blk HB.out
 have hst := blk_whole (ds := sgA zeroS) HB.out rfl
 have i1 : (¬ (n : Int) < 393) := by omega
 have i2 : (393 : Int) < (n : Int) := by omega
 clear hS
 go_enter Tryz.func55, Tryz.ntmps55
 go_wp2_with (first | (with_reducible refine wpList_storeS0 rfl (.tmp 2) (.tmp 13) rfl w.heap.size rfl rfl ht ?_))
 exact bodyPost_ret (v := .tuple #[.agg (sgA zeroS), .int .i64 3]) (retCV rfl _ _ w.heap.size _ _ rfl rfl (run_loadVar_row _ _ _ _ _ (0, 0) _ hst Tryz.underlying48 rfl (by kernel_rfl))) rfl ⟨zeroS, by rw [HC.out], zeroS_ok _, Below.setCells' HE.out (Nat.le_refl _) _ _, fun h => by rw [HC.out] at h; exact absurd h (by decide), fun _ => rfl, OwnB.nil _ _ _⟩
theorem rSgDec_yes (A : Option Addr) (c : Nat) (l : List UInt8) (w : World) (hS : SlB w A 393 c l) : Calls Tryz.prog 55 #[.slice A 393 c] w (SdOut w l) := by
 have hl := hS.len
 have hcap := hS.cap
 have hle := hS.le
 obtain ⟨b, o, rfl, hr, hb⟩ := hS.at (by omega)
 have HC := Lib.hid (show sdC l = vdC (l.take 23) from by unfold sdC; rw [hl, if_neg (by omega), if_neg (by omega)])
 have HE := Lib.hid ((Ext.refl w).alloc' (.cells sg0 48))
 have HB := Lib.hid (Blk.new w 48 sg0)
 have HS := Lib.hid hS
 have HL := Lib.hid hl
 have e1 : (bcs l).take 23 = bcs (l.take 23) := by simp [bcs]
 have e2 : (bcs l).drop 23 = bcs (l.drop 23) := by simp [bcs]
 have HA := Lib.hid (fun (W : World) (h : Ext w W) => show SlB W (some ⟨b, o, none⟩) 23 c (l.take 23) from slB_at (by have := rangeAt_take (k := 23) (rangeAt_keep hr (h.block b hb)); rwa [e1] at this) (by rw [List.length_take]; omega) (by omega) (by omega))
 have HD := Lib.hid (fun (W : World) (h : Ext w W) => show SlB W (some ⟨b, o + 23, none⟩) 370 (c - 23) (l.drop 23) from slB_at (by have := rangeAt_drop (k := 23) (rangeAt_keep hr (h.block b hb)); rwa [e2] at this) (by rw [List.length_drop]; omega) (by omega) (by omega))
 have hck : ¬ c = 23 := by omega
 clear hS hr hl e1 e2
 go_enter Tryz.func55, Tryz.ntmps55
 go_wp2_with fail
 refine (rVtDec_yes _ c (l.take 23) _ (HA.out _ HE.out)).mono ?_
 rintro e w1 ⟨rfl, he1⟩
 have HX1 := Lib.hid (HE.out.trans he1)
 have HB1 := Lib.hid (HB.out.ext he1)
 have HWF := Lib.hid (show (vdV (l.take 23)).wf from by unfold vdV; split; exact decVt_wf _; exact zeroV_wf)
 have HV := Lib.hid (show (vdC (l.take 23) = 0 ∧ vdV (l.take 23) = decVt (l.take 23) ∧ vldVt (vdV (l.take 23)) = true) ∨ vdC (l.take 23) = 11 from by
  unfold vdC vdV
  cases hv : vldVt (decVt (l.take 23)) with
  | true => exact .inl ⟨rfl, rfl, hv⟩
  | false => exact .inr rfl)
 obtain ⟨v, hv⟩ : ∃ v, vdV (l.take 23) = v := ⟨_, rfl⟩
 obtain ⟨z, hz⟩ : ∃ z, vdC (l.take 23) = z := ⟨_, rfl⟩
 rw [hv, hz] at HV
 rw [hv] at HWF
 rw [hz] at HC
 rw [hv, hz]
 clear hv hz he1
 have HX2 := Lib.hid (HX1.out.alloc' (.cells (vtA v) 46))
 have HB2 := Lib.hid (HB1.out.alloc (.cells (vtA v) 46))
 have HV2 := Lib.hid (Blk.new w1 46 (vtA v))
 have HG := Lib.hid HB1.out.lt
 have hth : (w1.alloc (.cells (vtA v) 46)).there w.heap.size 0 23 := there_of_blk HB2.out
 rcases HV.out with ⟨rfl, hd, hvd⟩ | rfl
 ·have HF := Lib.hid (And.intro hd hvd)
  clear hd hvd
  go_wp2_with (first | (with_reducible refine wpList_newVt rfl (.tmp 4) (.tmp 18) rfl _ rfl v rfl rfl ?_))
  generalize w1.alloc (.cells (vtA v) 46) = W2 at HX2 HB2 HV2 hth ⊢
  have HN := Lib.hid (show w1.heap.size ≠ w.heap.size from by have := HG.out; omega)
  refine wp_region_held_drew (S := fun W => W.rangeAt w1.heap.size 0 (vtL v)) (by kernel_rfl) (rangeAt_of_blk HV2.out.drew) (fun hHeld => ?_)
  (refine wpAnyH_take (i := 0) (oi := ⟨some 24, .load 46 (.tmp 4), 46, "ref.go:225", #[], none⟩) (v := .agg (vtA v)) rfl (by kernel_rfl) (by kernel_rfl) (by kernel_rfl) (fun _ _ _ h => h) ?hy0 hHeld ?_; case hy0 => (refine yields_loadVtA ?hw (.tmp 4) rfl w1.heap.size 0 ?hx v (fun W h => h); (case hw => rfl); (case hx => rfl)))
  try simp only [lays]
  (refine wr 1 (oi := ⟨some 25, .move (.tmp 0), 28, "ref.go:225", #[], none⟩) (v := ?_) rfl (by kernel_rfl) (by rfl) (fun _ _ _ h => h) ?h hHeld ?_; case h => (intro W hSW; go_simp <;> with_reducible rfl))
  try simp only [lays]
  (refine wr 2 (oi := ⟨some 26, .slice 28 (.tmp 25) (some (.const (.int .i64 23))) none none, 28, "ref.go:225", #[⟨1, .data⟩], none⟩) (v := ?_) rfl (by kernel_rfl) (by rfl) (fun _ _ _ h => h) ?h hHeld ?_; case h => (intro W hSW; go_simp <;> with_reducible rfl))
  try simp only [lays]
  refine wpAnyH_ready (rs := [3]) (by kernel_rfl) (by simp) ?_
  refine AllReadyH.cons (o := ⟨some 27, .call { callee := .builtin .append, args := #[.const (.slice none 0 0), .tmp 26], argTypes := #[28, 28] }, 28, "ref.go:225", #[⟨2, .data⟩], none⟩) rfl (fun K hK => ?_) AllReadyH.nil
  refine step_appBG bytesE rfl (.const (.slice none 0 0)) (.tmp 26) rfl W2.heap.size none 0 0 [] (by rfl) (OwnB.nil _ _ _) (some ⟨b, o + 23, none⟩) 370 (c - 23) (l.drop 23) (by rfl) (HD.out _ (HX2.out.trans (Ext.refl W2).drew')) (by omega) (Ext.refl W2).drew'.size ?_; intro A3 c3 w3 ho hg; have he3 : Ext W2 w3 := Below.grown (Ext.refl W2).drew' hg (Ext.refl W2).drew'.size (fun q hq => by cases hq); have hO3 : OwnB w3 W2.heap.size 5 A3 370 c3 (l.drop 23) := (by simpa only [Nat.zero_add, List.nil_append] using ho); clear ho hg
  refine hK.out _ _ (rangeAt_of_blk (HV2.out.ext he3)) (fun hHeld => ?_)
  clear hK K
  try simp only [lays]
  (refine wr 4 (oi := ⟨some 28, .build 48 #[(0, .tmp 24), (1, .tmp 27)], 48, "ref.go:225", #[⟨0, .data⟩, ⟨3, .data⟩], none⟩) (v := ?_) rfl (by kernel_rfl) (by rfl) (fun _ _ _ h => h) ?h hHeld ?_; case h => (intro W hSW; go_simp <;> with_reducible rfl))
  try simp only [lays]
  refine wpAnyH_ready (rs := [5]) (by kernel_rfl) (by simp) ?_
  refine AllReadyH.cons (o := ⟨none, .store 48 (.tmp 2) (.tmp 28), 0, "ref.go:225", #[⟨4, .data⟩, ⟨3, .chain⟩, ⟨0, .phase⟩, ⟨1, .phase⟩, ⟨2, .phase⟩, ⟨3, .phase⟩, ⟨4, .phase⟩], none⟩) rfl (fun K hK => ?_) AllReadyH.nil
  refine Eq.mpr (if_pos (by rfl)) ?_; refine wp_store_mid 48 (.tmp 2) (.tmp 28) rfl w.heap.size 0 (sgA ⟨v, A3, 370, c3, l.drop 23⟩) rfl ?hy (show w3.there w.heap.size 0 23 from there_of_blk (HB2.out.ext he3)) (by kernel_rfl) (sgA_all _) ?_; (case hy => rfl)
  refine hK.out _ _ (World.rangeAt_setCells_apart (rangeAt_of_blk (HV2.out.ext he3)) _ _ _ (.inl HN.out)) (fun hHeld => ?_)
  clear hK K
  try simp only [lays]
  (refine wr 6 (oi := ⟨some 3, .assign (.const (.int .i64 0)), 29, "ref.go:225", #[⟨5, .chain⟩, ⟨0, .phase⟩, ⟨1, .phase⟩, ⟨2, .phase⟩, ⟨3, .phase⟩, ⟨4, .phase⟩, ⟨5, .phase⟩], none⟩) (v := ?_) rfl (by kernel_rfl) (by rfl) (fun _ _ _ h => h) ?h hHeld ?_; case h => (intro W hSW; go_simp <;> with_reducible rfl))
  try simp only [lays]
  refine wpAnyH_done (by kernel_rfl) ?_ _
  have hst := blk_whole (ds := sgA ⟨v, A3, 370, c3, l.drop 23⟩) (HB2.out.ext he3) rfl
  have hx3 : Ext w w3 := Ext.trans HX2.out he3
  have hown : OwnB (w3.setCells w.heap.size 0 (sgA ⟨v, A3, 370, c3, l.drop 23⟩).toList) w.heap.size 5 A3 370 c3 (l.drop 23) :=
   World.ownsRow.kept (own_mono hO3 (Nat.le_of_lt (show w.heap.size < W2.heap.size from HB2.out.lt))) (grown_setCells' w3 w.heap.size _ 0) (.inr (Ne.symm (own_other hO3 (HB2.out.ext he3) (by decide))))
  have hok : (SgR.mk v A3 370 c3 (l.drop 23)).ok (w3.setCells w.heap.size 0 (sgA ⟨v, A3, 370, c3, l.drop 23⟩).toList) := ⟨HWF.out, hown.sl⟩
  go_wp2_with fail
  exact bodyPost_ret (v := .tuple #[.agg (sgA ⟨v, A3, 370, c3, l.drop 23⟩), .int .i64 0]) (retCV rfl _ _ w.heap.size _ _ rfl rfl (run_loadVar_row _ _ _ _ _ (0, 0) _ hst Tryz.underlying48 rfl (by kernel_rfl))) rfl ⟨⟨v, A3, 370, c3, l.drop 23⟩, by rw [HC.out], hok, Below.setCells' hx3 (Nat.le_refl _) _ _, fun _ => ⟨HF.out.1, HF.out.2, rfl, rfl⟩, fun h => absurd HC.out h, hown⟩
 ·have ht := hth
  have hst := blk_whole (ds := sgA zeroS) HB2.out rfl
  go_wp2_with (first | (with_reducible refine wpList_newVt rfl (.tmp 4) (.tmp 18) rfl _ rfl v rfl rfl ?_) | (with_reducible refine wpList_storeS0 rfl (.tmp 2) (.tmp 22) rfl w.heap.size rfl rfl ht ?_))
  exact bodyPost_ret (v := .tuple #[.agg (sgA zeroS), .int .i64 11]) (retCV rfl _ _ w.heap.size _ _ rfl rfl (run_loadVar_row _ _ _ _ _ (0, 0) _ hst Tryz.underlying48 rfl (by kernel_rfl))) rfl ⟨zeroS, by rw [HC.out], zeroS_ok _, Below.setCells' HX2.out (Nat.le_refl _) _ _, fun h => by rw [HC.out] at h; exact absurd h (by decide), fun _ => rfl, OwnB.nil _ _ _⟩
theorem rSgDec_any (A : Option Addr) (n c : Nat) (l : List UInt8) (w : World) (hS : SlB w A n c l) : Calls Tryz.prog 55 #[.slice A n c] w (SdOut w l) := by
 rcases Nat.lt_trichotomy n 393 with h | h | h
 ·exact rSgDec_short A n c l w hS h
 ·subst h; exact rSgDec_yes A c l w hS
 ·exact rSgDec_long A n c l w hS h
end Go.Proofs.YtbfepgjeecndiaaGreat
