/- The sort of the library at texts, by name and number (the kit's proved sort is laid here). -/
import Derived.Shelf.SlLaysF
import Derived.Test.YtbfepgjeecndiaaGreatProg
import Derived.Test.YtbfepgjeecndiaaGreatK07
import Derived.Test.YtbfepgjeecndiaaGreatLay
namespace Go.Proofs.YtbfepgjeecndiaaGreat
open Go.Shelf
def sortTe_ren : Go.Shelf.Ren := ⟨fun | 6 => 62 | 15 => 92 | 14 => 91 | 28 => 112 | 29 => 113 | 20 => 104 | 21 => 105 | 22 => 106 | 23 => 107 | 24 => 108 | 25 => 109 | 26 => 110 | 27 => 111 | 46 => 119 | 47 => 120 | 48 => 121 | 49 => 122 | 50 => 123 | 57 => 125 | n => n, fun | 22 => 23 | 24 => 28 | 25 => 83 | 3 => 3 | 39 => 96 | 0 => 0 | 53 => 130 | 55 => 61 | 4 => 4 | 46 => 123 | 45 => 122 | 50 => 127 | 5 => 5 | 9 => 9 | 66 => 134 | 70 => 138 | 76 => 140 | 77 => 141 | n => n, fun | n => n⟩
theorem sortTe : Go.Proofs.SlLaysF.n6 Tryz.prog sortTe_ren := {
 mixed := by kernel_rfl
 f6 := ⟨Tryz.f62.name, by decide, Tryz.func62.trans (congrArg some (by kernel_rfl))⟩
 f14 := ⟨Tryz.f91.name, by decide, Tryz.func91.trans (congrArg some (by kernel_rfl))⟩
 f15 := Tryz.func92.trans (congrArg some (by kernel_rfl))
 f20 := ⟨Tryz.f104.name, by decide, Tryz.func104.trans (congrArg some (by kernel_rfl))⟩
 f21 := ⟨Tryz.f105.name, by decide, Tryz.func105.trans (congrArg some (by kernel_rfl))⟩
 f22 := ⟨Tryz.f106.name, by decide, Tryz.func106.trans (congrArg some (by kernel_rfl))⟩
 f23 := ⟨Tryz.f107.name, by decide, Tryz.func107.trans (congrArg some (by kernel_rfl))⟩
 f24 := ⟨Tryz.f108.name, by decide, Tryz.func108.trans (congrArg some (by kernel_rfl))⟩
 f25 := ⟨Tryz.f109.name, by decide, Tryz.func109.trans (congrArg some (by kernel_rfl))⟩
 f26 := ⟨Tryz.f110.name, by decide, Tryz.func110.trans (congrArg some (by kernel_rfl))⟩
 f27 := ⟨Tryz.f111.name, by decide, Tryz.func111.trans (congrArg some (by kernel_rfl))⟩
 f28 := Tryz.func112.trans (congrArg some (by kernel_rfl))
 f29 := Tryz.func113.trans (congrArg some (by kernel_rfl))
 f46 := ⟨Tryz.f119.name, by decide, Tryz.func119.trans (congrArg some (by kernel_rfl))⟩
 f47 := Tryz.func120.trans (congrArg some (by kernel_rfl))
 f48 := Tryz.func121.trans (congrArg some (by kernel_rfl))
 f49 := ⟨Tryz.f122.name, by decide, Tryz.func122.trans (congrArg some (by kernel_rfl))⟩
 f50 := ⟨Tryz.f123.name, by decide, Tryz.func123.trans (congrArg some (by kernel_rfl))⟩
 f57 := ⟨Tryz.f125.name, by decide, Tryz.func125.trans (congrArg some (by kernel_rfl))⟩
 t0 := Tryz.underlying0
 a0 := Tryz.isAgg0
 z0 := Tryz.sizeOf0
 v0 := Tryz.zeroValue0
 t3 := Tryz.underlying3
 a3 := Tryz.isAgg3
 z3 := Tryz.sizeOf3
 v3 := Tryz.zeroValue3
 t4 := Tryz.underlying4
 a4 := Tryz.isAgg4
 z4 := Tryz.sizeOf4
 v4 := Tryz.zeroValue4
 t5 := Tryz.underlying5
 a5 := Tryz.isAgg5
 z5 := Tryz.sizeOf5
 v5 := Tryz.zeroValue5
 t9 := Tryz.underlying9
 a9 := Tryz.isAgg9
 z9 := Tryz.sizeOf9
 v9 := Tryz.zeroValue9
 t22 := Tryz.underlying23
 a22 := Tryz.isAgg23
 z22 := Tryz.sizeOf23
 v22 := Tryz.zeroValue23
 a24 := Tryz.isAgg28
 z24 := Tryz.sizeOf28
 t25 := Tryz.underlying83
 a25 := Tryz.isAgg83
 z25 := Tryz.sizeOf83
 v25 := Tryz.zeroValue83
 t39 := Tryz.underlying96
 a39 := Tryz.isAgg96
 z39 := Tryz.sizeOf96
 v39 := Tryz.zeroValue96
 t45 := Tryz.underlying122
 a45 := Tryz.isAgg122
 z45 := Tryz.sizeOf122
 v45 := Tryz.zeroValue122
 t46 := Tryz.underlying123
 a46 := Tryz.isAgg123
 z46 := Tryz.sizeOf123
 v46 := Tryz.zeroValue123
 t50 := Tryz.underlying127
 a50 := Tryz.isAgg127
 z50 := Tryz.sizeOf127
 v50 := Tryz.zeroValue127
 t53 := Tryz.underlying130
 a53 := Tryz.isAgg130
 z53 := Tryz.sizeOf130
 v53 := Tryz.zeroValue130
 t55 := Tryz.underlying61
 a55 := Tryz.isAgg61
 z55 := Tryz.sizeOf61
 v55 := Tryz.zeroValue61
 t66 := Tryz.underlying134
 a66 := Tryz.isAgg134
 z66 := Tryz.sizeOf134
 v66 := Tryz.zeroValue134
 t70 := Tryz.underlying138
 a70 := Tryz.isAgg138
 z70 := Tryz.sizeOf138
 v70 := Tryz.zeroValue138
 t76 := Tryz.underlying140
 a76 := Tryz.isAgg140
 z76 := Tryz.sizeOf140
 v76 := Tryz.zeroValue140
 t77 := Tryz.underlying141
 a77 := Tryz.isAgg141
 z77 := Tryz.sizeOf141
 v77 := Tryz.zeroValue141 }
end Go.Proofs.YtbfepgjeecndiaaGreat

/- The order of names (the program's). -/
namespace Go.Proofs.YtbfepgjeecndiaaGreat
set_option maxRecDepth 100000
set_option maxHeartbeats 8000000
open Go.RowKit
set_option linter.unusedVariables false
set_option linter.unusedSimpArgs false
attribute [local go_sem ↓] Go.wp_at_zero Go.wp_at_succ
theorem hLess_any (x y : UInt64) (w : World) : Calls Tryz.prog 115 #[.agg (nmc x), .agg (nmc y)] w fun e w' => e = .returned (.bool (decide (un x < un y))) ∧ Ext w w' := by
 have hE := ((Ext.refl w).alloc' (.cells (nmc x) 44)).alloc' (.cells (nmc y) 44)
 have HB1 := Lib.hid ((Blk.new w 44 (nmc x)).alloc (.cells (nmc y) 44))
 have HB2 := Lib.hid (show Blk ((w.alloc (.cells (nmc x) 44)).alloc (.cells (nmc y) 44)) (w.heap.size + 1) 44 (nmc y) from Blk.newAt _ _ _ _ (by simp))
 have HE := Lib.hid hE
 obtain ⟨W0, hW0⟩ : ∃ W0, (w.alloc (.cells (nmc x) 44)).alloc (.cells (nmc y) 44) = W0 := ⟨_, rfl⟩
 rw [hW0] at HB1 HB2 HE
 have HC := Lib.hid (fun (W : World) (h : Ext W0 W) => And.intro (cells8 (HB1.out.ext h)) (cells8 (HB2.out.ext h)))
 clear hE
 have hq := fun W => run_eqN x y W
 obtain ⟨c1, c2⟩ := HC.out W0 (Ext.refl _)
 by_cases hxy : x = y
 ·have HV := Lib.hid (show decide (un x < un y) = false by rw [hxy]; simp)
  rw [decide_eq_true hxy] at hq
  clear hxy
  go_enter Tryz.func115, Tryz.ntmps115
  go_wp2_with fail
  go_ret
  exact ⟨by rw [HV.out]; rfl, HE.out⟩
 ·rw [decide_eq_false hxy] at hq
  clear hxy
  go_enter Tryz.func115, Tryz.ntmps115
  go_wp2_with fail
  clear c1 c2 hq
  refine wp_region_plan (S := fun W => Ext W0 W) (by kernel_rfl) (by kernel_rfl) ((Ext.refl W0).drew') ?_
  (refine pr 0 (oi := ⟨some 8, .load 44 (.tmp 2), 44, "hash.go:47", #[], none⟩) (v := ?_) rfl (by kernel_rfl) (by rfl) ?h ?_; case h => (intro W hSW; obtain ⟨c1, c2⟩ := HC.out W hSW; go_simp <;> with_reducible rfl))
  try simp only [lays]
  (refine plan_take (i := 1) (oi := ⟨some 9, .call { callee := .value (.func 96), args := #[.tmp 8], argTypes := #[44] }, 61, "hash.go:47", #[⟨0, .data⟩], none⟩) (v := ?_) rfl (by kernel_rfl) (by kernel_rfl) (fx_call (by rfl) (fun W hSW K hK => ?hy1)) ?_; case hy1 => (go_simp; go_at_call 96; (with_reducible refine (number_any x W).mono ?_); rintro e w1 ⟨rfl, he1⟩; exact hK.out _ (hSW.trans he1)))
  try simp only [lays]
  (refine pr 2 (oi := ⟨some 10, .load 44 (.tmp 3), 44, "hash.go:47", #[], none⟩) (v := ?_) rfl (by kernel_rfl) (by rfl) ?h ?_; case h => (intro W hSW; obtain ⟨c1, c2⟩ := HC.out W hSW; go_simp <;> with_reducible rfl))
  try simp only [lays]
  (refine plan_take (i := 3) (oi := ⟨some 11, .call { callee := .value (.func 96), args := #[.tmp 10], argTypes := #[44] }, 61, "hash.go:47", #[⟨2, .data⟩, ⟨1, .chain⟩], none⟩) (v := ?_) rfl (by kernel_rfl) (by kernel_rfl) (fx_call (by rfl) (fun W hSW K hK => ?hy3)) ?_; case hy3 => (go_simp; go_at_call 96; (with_reducible refine (number_any y W).mono ?_); rintro e w1 ⟨rfl, he1⟩; exact hK.out _ (hSW.trans he1)))
  try simp only [lays]
  (refine pr 4 (oi := ⟨some 12, .binOp .lss 61 (.tmp 9) (.tmp 11) 61, 4, "hash.go:47", #[⟨1, .data⟩, ⟨3, .data⟩], none⟩) (v := ?_) rfl (by kernel_rfl) (by rfl) ?h ?_; case h => (intro W hSW; go_simp <;> with_reducible rfl))
  try simp only [lays]
  (refine pr 5 (oi := ⟨some 4, .assign (.tmp 12), 4, "hash.go:47", #[⟨4, .data⟩, ⟨3, .chain⟩, ⟨0, .phase⟩, ⟨1, .phase⟩, ⟨2, .phase⟩, ⟨3, .phase⟩, ⟨4, .phase⟩], none⟩) (v := ?_) rfl (by kernel_rfl) (by rfl) ?h ?_; case h => (intro W hSW; go_simp <;> with_reducible rfl))
  try simp only [lays]
  refine Plan.done (by kernel_rfl) (fun W hSW => ?_)
  have HX := Lib.hid (HE.out.trans hSW)
  clear hSW
  go_wp2_with fail
  go_ret
  exact ⟨rfl, HX.out⟩
end Go.Proofs.YtbfepgjeecndiaaGreat

/- Votes: which are valid, their bytes, their order. Plain: no program in sight. -/
namespace Go.Proofs.YtbfepgjeecndiaaGreat
open Go.RowKit
set_option linter.unusedVariables false
set_option linter.unusedSimpArgs false
def supI (z : Int) : Int := bits .andNot .i64 z 1023
theorem wfI_bd {z : Int} (h : wfI z) : -9223372036854775808 ≤ z ∧ z ≤ 9223372036854775807 := by
 unfold wfI at h
 simp [Lit.wf, IntKind.min, IntKind.max, IntKind.bits, IntKind.signed] at h
 omega
theorem supI_iff {z : Int} (h : wfI z) : supI z = 0 ↔ 0 ≤ z ∧ z ≤ 1023 := by
 obtain ⟨h1, h2⟩ := wfI_bd h
 have key : ∀ X : Nat, X < 18446744073709551616 → X &&& 18446744073709550592 = X / 1024 * 1024 := fun X hX => by
  rw [nat_hi64_10 X, Nat.mod_eq_of_lt hX]
 have hx : (BitVec.ofInt 64 z).toNat < 18446744073709551616 := (BitVec.ofInt 64 z).isLt
 have hz : ((BitVec.ofInt 64 z).toNat : Int) = z % 18446744073709551616 := by
  rw [BitVec.toNat_ofInt]; omega
 have e : supI z = IntKind.i64.wrap (((BitVec.ofInt 64 z).toNat / 1024 * 1024 : Nat) : Int) := by
  rw [← key _ hx]
  show IntKind.i64.wrap ((BitVec.ofInt 64 z &&& ~~~BitVec.ofInt 64 (1023 : Int)).toNat : Int) = _
  rw [BitVec.toNat_and]
  rfl
 rw [e, IntKind.wrap_i64]
 omega
def inI (n lo hi : Int) : Bool := decide (lo ≤ n ∧ n ≤ hi)
def chV (v : VtR) : Bool := decide (v.ch = 1 ↔ v.va ≠ 0)
def restV (v : VtR) : Bool :=
 if v.k = 3 then inI v.sl 0 9 && (inI v.ro 1 12 && (inI v.ch 0 1 && (decide (v.ro ≠ 1) || (decide (v.ch ≠ 0) || decide (v.su = 0)))))
 else if v.k = 4 then inI v.sl 0 9 && (inI v.ro 1 12 && inI v.ch 0 2)
 else inI v.sl 0 (if v.k ≤ 2 then 9 else 0) && (decide (v.ro = 0 ∧ v.su = 0) && decide (v.ch = 1))
def vldVt (v : VtR) : Bool := (inI v.k 1 7 && inI v.si 0 9) && ((chV v && decide (supI v.su = 0)) && restV v)
theorem vldVt_bd {v : VtR} (h : vldVt v = true) (hw : v.wf) : 0 ≤ v.k ∧ v.k < 256 ∧ 0 ≤ v.sl ∧ v.sl < 256 ∧ 0 ≤ v.ro ∧ v.ro < 256 ∧ 0 ≤ v.ch ∧ v.ch < 256 ∧ 0 ≤ v.si ∧ v.si < 256 ∧ 0 ≤ v.su ∧ v.su ≤ 1023 := by
 unfold vldVt inI at h
 simp only [Bool.and_eq_true, decide_eq_true_eq] at h
 obtain ⟨⟨h1, h2⟩, ⟨h3, h4⟩, h5⟩ := h
 have h6 := (supI_iff hw.su).1 h4
 unfold restV inI at h5
 split at h5
 ·simp only [Bool.and_eq_true, decide_eq_true_eq] at h5; omega
 ·split at h5
  ·simp only [Bool.and_eq_true, decide_eq_true_eq] at h5; omega
  ·simp only [Bool.and_eq_true, decide_eq_true_eq] at h5; split at h5 <;> omega
def encVt (v : VtR) : List UInt8 := [toB v.k, toB v.sl, toB v.ro, toB v.ch, toB v.si] ++ (beI 2 v.su ++ (nmb v.pa ++ nmb v.va))
theorem encVt_length (v : VtR) : (encVt v).length = 23 := by simp [encVt, beI_length, nmb_length]
def byt (l : List UInt8) (i : Nat) : UInt8 := l.getD i 0
def decVt (l : List UInt8) : VtR := ⟨(byt l 0).toNat, (byt l 1).toNat, (byt l 2).toNat, (byt l 3).toNat, (byt l 4).toNat, numAt l 5 2, ofNm ((l.drop 7).take 8), ofNm ((l.drop 15).take 8)⟩
theorem wfI_of {z : Int} (h1 : -9223372036854775808 ≤ z) (h2 : z ≤ 9223372036854775807) : wfI z := by
 unfold wfI
 simp [Lit.wf, IntKind.min, IntKind.max, IntKind.bits, IntKind.signed]
 omega
theorem decVt_wf (l : List UInt8) : (decVt l).wf := by
 have hb : ∀ c : UInt8, wfI (c.toNat : Int) := fun c => by have := c.toNat_lt; exact wfI_of (by omega) (by omega)
 refine ⟨hb _, hb _, hb _, hb _, hb _, ?_⟩
 have h1 := beNat_lt ((l.drop 5).take 2)
 have h2 : ((l.drop 5).take 2).length ≤ 2 := List.length_take_le _ _
 have h3 : 256 ^ ((l.drop 5).take 2).length ≤ 256 ^ 2 := Nat.pow_le_pow_right (by omega) h2
 refine wfI_of ?_ ?_
 ·show _ ≤ ((numAt l 5 2 : Nat) : Int); omega
 ·show ((numAt l 5 2 : Nat) : Int) ≤ _; unfold numAt; omega
theorem beI_2 {z : Int} (h1 : 0 ≤ z) (h2 : z ≤ 65535) : (beNat (beI 2 z) : Int) = z := by
 unfold beI
 rw [beNat_beBytes]
 omega
theorem decVt_enc {v : VtR} (h : vldVt v = true) (hw : v.wf) : decVt (encVt v) = v := by
 obtain ⟨a1, a2, a3, a4, a5, a6, a7, a8, a9, a10, a11, a12⟩ := vldVt_bd h hw
 have e7 : ((encVt v).drop 7).take 8 = nmb v.pa := by
  unfold encVt
  have h5 : ([toB v.k, toB v.sl, toB v.ro, toB v.ch, toB v.si] ++ (beI 2 v.su ++ (nmb v.pa ++ nmb v.va))) = ([toB v.k, toB v.sl, toB v.ro, toB v.ch, toB v.si] ++ beI 2 v.su) ++ (nmb v.pa ++ nmb v.va) := by simp
  rw [h5, List.drop_left' (by simp [beI_length]), List.take_left' (nmb_length _)]
 have e15 : ((encVt v).drop 15).take 8 = nmb v.va := by
  unfold encVt
  have h5 : ([toB v.k, toB v.sl, toB v.ro, toB v.ch, toB v.si] ++ (beI 2 v.su ++ (nmb v.pa ++ nmb v.va))) = (([toB v.k, toB v.sl, toB v.ro, toB v.ch, toB v.si] ++ beI 2 v.su) ++ nmb v.pa) ++ nmb v.va := by simp
  rw [h5, List.drop_left' (by simp [beI_length, nmb_length]), List.take_of_length_le (by simp [nmb_length])]
 have e5 : ((encVt v).drop 5).take 2 = beI 2 v.su := by
  unfold encVt
  rw [List.drop_left' (by simp), List.take_left' (beI_length _ _)]
 have ek : ∀ z : Int, 0 ≤ z → z < 256 → ((toB z).toNat : Int) = z := fun z h0 h1 => toB_toNat h0 h1
 obtain ⟨k, sl, ro, ch, si, su, pa, va⟩ := v
 unfold decVt numAt
 rw [e7, e15, e5, ofNm_nmb, ofNm_nmb]
 simp only at *
 congr 1
 ·exact ek _ a1 a2
 ·exact ek _ a3 a4
 ·exact ek _ a5 a6
 ·exact ek _ a7 a8
 ·exact ek _ a9 a10
 ·exact beI_2 a11 (by omega)
theorem enc_decVt {l : List UInt8} (h : l.length = 23) : encVt (decVt l) = l := by
 have h1 : beI 2 (numAt l 5 2 : Nat) = (l.drop 5).take 2 := by
  have hl : ((l.drop 5).take 2).length = 2 := by rw [List.length_take, List.length_drop]; omega
  have hlt := beNat_lt ((l.drop 5).take 2)
  rw [hl] at hlt
  have e : (((numAt l 5 2 : Nat) : Int) % 18446744073709551616).toNat = beNat ((l.drop 5).take 2) := by unfold numAt; omega
  unfold beI
  rw [e]
  have := beBytes_beNat ((l.drop 5).take 2)
  rwa [hl] at this
 have h2 : nmb (ofNm ((l.drop 7).take 8)) = (l.drop 7).take 8 := nmb_ofNm _ (by rw [List.length_take, List.length_drop]; omega)
 have h3 : nmb (ofNm ((l.drop 15).take 8)) = (l.drop 15).take 8 := nmb_ofNm _ (by rw [List.length_take, List.length_drop]; omega)
 unfold encVt decVt
 simp only [toB_byte]
 rw [h1, h2, h3]
 apply List.ext_getElem?
 intro i
 have hb : ∀ j, j < 23 → l[j]? = some (byt l j) := fun j hj => by
  unfold byt
  rw [List.getD_eq_getElem?_getD]
  cases hh : l[j]? with
  | none => rw [List.getElem?_eq_none_iff] at hh; omega
  | some c => rfl
 rcases Nat.lt_or_ge i 5 with hi | hi
 ·rw [List.getElem?_append_left (by simpa using hi)]
  rcases (by omega : i = 0 ∨ i = 1 ∨ i = 2 ∨ i = 3 ∨ i = 4) with rfl | rfl | rfl | rfl | rfl <;> (rw [hb _ (by omega)]; rfl)
 ·rw [List.getElem?_append_right (by simpa using hi)]
  simp only [List.length_cons, List.length_nil]
  have t : (l.drop 5).take 2 ++ ((l.drop 7).take 8 ++ (l.drop 15).take 8) = l.drop 5 := by
   have t3 : (l.drop 15).take 8 = l.drop 15 := List.take_of_length_le (by rw [List.length_drop]; omega)
   have t2 : (l.drop 7).take 8 ++ l.drop 15 = l.drop 7 := by
    have := List.take_append_drop 8 (l.drop 7)
    rwa [List.drop_drop] at this
   have t1 : (l.drop 5).take 2 ++ l.drop 7 = l.drop 5 := by
    have := List.take_append_drop 2 (l.drop 5)
    rwa [List.drop_drop] at this
   rw [t3, t2, t1]
  rw [t, List.getElem?_drop]
  congr 1
  omega
/-! the order -/
def lexI : List Int → List Int → Bool
 | x :: r, y :: s => if x = y then lexI r s else decide (x < y)
 | _, _ => false
theorem lexI_irrefl (l : List Int) : lexI l l = false := by
 induction l with
 | nil => rfl
 | cons x r ih => simp [lexI, ih]
theorem lexI_trans : ∀ (a b c : List Int), lexI a b = true → lexI b c = true → lexI a c = true
 | [], _, _, h, _ => by simp [lexI] at h
 | _ :: _, [], _, h, _ => by simp [lexI] at h
 | _ :: _, _ :: _, [], _, h => by simp [lexI] at h
 | x :: r, y :: s, z :: t, h1, h2 => by
  unfold lexI at h1 h2 ⊢
  have ih := lexI_trans r s t
  by_cases c1 : x = y
  ·subst c1
   rw [if_pos rfl] at h1
   by_cases c2 : x = z
   ·subst c2; rw [if_pos rfl] at h2 ⊢; exact ih h1 h2
   ·rw [if_neg c2] at h2 ⊢; exact h2
  ·rw [if_neg c1] at h1
   have h1' := of_decide_eq_true h1
   by_cases c2 : y = z
   ·subst c2; rw [if_neg c1]; exact h1
   ·rw [if_neg c2] at h2
    have h2' := of_decide_eq_true h2
    rw [if_neg (by omega)]; exact decide_eq_true (by omega)
theorem lexI_total : ∀ (a b : List Int), a.length = b.length → lexI a b = false → lexI b a = false → a = b
 | [], [], _, _, _ => rfl
 | [], _ :: _, h, _, _ => by simp at h
 | _ :: _, [], h, _, _ => by simp at h
 | x :: r, y :: s, h, h1, h2 => by
  unfold lexI at h1 h2
  have ih := lexI_total r s (by simpa using h)
  by_cases e : x = y
  ·subst e; simp at h1 h2; rw [ih h1 h2]
  ·rw [if_neg e] at h1; rw [if_neg (fun h => e h.symm)] at h2; simp at h1 h2; omega
def vtKey (v : VtR) : List Int := [un v.pa, v.sl, v.ro, v.k, v.si, v.ch, un v.va, v.su]
theorem vtKey_inj {a b : VtR} (h : vtKey a = vtKey b) : a = b := by
 obtain ⟨k, sl, ro, ch, si, su, pa, va⟩ := a
 obtain ⟨k', sl', ro', ch', si', su', pa', va'⟩ := b
 simp only [vtKey, List.cons.injEq, and_true] at h
 obtain ⟨h1, h2, h3, h4, h5, h6, h7, h8⟩ := h
 rw [un_inj h1, un_inj h7, h2, h3, h4, h5, h6, h8]
def ltVt (a b : VtR) : Bool := lexI (vtKey a) (vtKey b)
end Go.Proofs.YtbfepgjeecndiaaGreat
