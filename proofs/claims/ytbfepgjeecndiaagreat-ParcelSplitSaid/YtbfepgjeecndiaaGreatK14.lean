/- The order of votes (the program's). -/
import Derived.Test.YtbfepgjeecndiaaGreatK13
namespace Go.Proofs.YtbfepgjeecndiaaGreat
set_option maxRecDepth 100000
set_option maxHeartbeats 8000000
open Go.RowKit
set_option linter.unusedVariables false
set_option linter.unusedSimpArgs false
attribute [local go_sem ↓] Go.wp_at_zero Go.wp_at_succ
theorem eqIn_N (a b : UInt64) (w : World) : (Op.equalIn 10000 44 (.agg (nmc a)) (.agg (nmc b))).run Tryz.prog w = .ok (decide (a = b)) w := by
 have := run_eqN a b w
 rw [run_eql_struct] at this
 cases h : (Op.equalIn 10000 44 (.agg (nmc a)) (.agg (nmc b))).run Tryz.prog w with
 | ok r w' => rw [h] at this; simp at this; obtain ⟨h1, h2⟩ := this; subst h1; subst h2; rfl
 | _ => rw [h] at this; simp at this
theorem run_neqN (a b : UInt64) (w : World) : (binOp .neq 44 (.agg (nmc a)) (.agg (nmc b))).run Tryz.prog w = .ok (.bool (!decide (a = b))) w := by
 rw [run_neq_struct, eqIn_N a b w]
 rfl
def x5 (v : VtR) : List Int := [v.sl, v.ro, v.k, v.si, v.ch]
abbrev x5A (v : VtR) : Array Value := #[.int .i64 v.sl, .int .i64 v.ro, .int .i64 v.k, .int .i64 v.si, .int .i64 v.ch]
def x5n (v : VtR) (i : Nat) : Int := (x5 v).getD i 0
theorem ltVt_pa {a b : VtR} (h : a.pa ≠ b.pa) : ltVt a b = decide (un a.pa < un b.pa) := by
 unfold ltVt vtKey lexI
 rw [if_neg (fun e => h (un_inj e))]
theorem ltVt_x5 {a b : VtR} (h : a.pa = b.pa) {k : Nat} (hk : k < 5) (he : ∀ j, j < k → x5n a j = x5n b j) (hn : x5n a k ≠ x5n b k) : ltVt a b = decide (x5n a k < x5n b k) := by
 have e0 : 0 < k → a.sl = b.sl := fun h => he 0 h
 have e1 : 1 < k → a.ro = b.ro := fun h => he 1 h
 have e2 : 2 < k → a.k = b.k := fun h => he 2 h
 have e3 : 3 < k → a.si = b.si := fun h => he 3 h
 unfold ltVt vtKey
 rcases (by omega : k = 0 ∨ k = 1 ∨ k = 2 ∨ k = 3 ∨ k = 4) with rfl | rfl | rfl | rfl | rfl
 ·have hn' : a.sl ≠ b.sl := hn
  simp only [lexI, h, if_true, if_neg hn']; rfl
 ·have hn' : a.ro ≠ b.ro := hn
  simp only [lexI, h, e0 (by omega), if_true, if_neg hn']; rfl
 ·have hn' : a.k ≠ b.k := hn
  simp only [lexI, h, e0 (by omega), e1 (by omega), if_true, if_neg hn']; rfl
 ·have hn' : a.si ≠ b.si := hn
  simp only [lexI, h, e0 (by omega), e1 (by omega), e2 (by omega), if_true, if_neg hn']; rfl
 ·have hn' : a.ch ≠ b.ch := hn
  simp only [lexI, h, e0 (by omega), e1 (by omega), e2 (by omega), e3 (by omega), if_true, if_neg hn']; rfl
theorem ltVt_va {a b : VtR} (h : a.pa = b.pa) (he : ∀ j, j < 5 → x5n a j = x5n b j) (hn : a.va ≠ b.va) : ltVt a b = decide (un a.va < un b.va) := by
 have e0 : a.sl = b.sl := he 0 (by omega)
 have e1 : a.ro = b.ro := he 1 (by omega)
 have e2 : a.k = b.k := he 2 (by omega)
 have e3 : a.si = b.si := he 3 (by omega)
 have e4 : a.ch = b.ch := he 4 (by omega)
 unfold ltVt vtKey
 simp only [lexI, h, e0, e1, e2, e3, e4, if_true, if_neg (fun e => hn (un_inj e) : ¬ un a.va = un b.va)]
theorem ltVt_su {a b : VtR} (h : a.pa = b.pa) (he : ∀ j, j < 5 → x5n a j = x5n b j) (hn : a.va = b.va) : ltVt a b = decide (a.su < b.su) := by
 have e0 : a.sl = b.sl := he 0 (by omega)
 have e1 : a.ro = b.ro := he 1 (by omega)
 have e2 : a.k = b.k := he 2 (by omega)
 have e3 : a.si = b.si := he 3 (by omega)
 have e4 : a.ch = b.ch := he 4 (by omega)
 unfold ltVt vtKey
 simp only [lexI, h, e0, e1, e2, e3, e4, hn, if_true]
 split
 ·rename_i e; rw [e]; simp
 ·rfl
theorem vt_pa {w : World} {g : Nat} {t : TypeId} {v : VtR} (h : Blk w g t (vtA v)) : w.rangeAt g 6 (bcs (nmb v.pa)) := by
 have h1 := rangeAt_take (k := 8) (rangeAt_drop (k := 6) (rangeAt_of_blk h))
 rw [bcs_nb8, ← Nat.zero_add 6]
 exact h1
theorem vt_va {w : World} {g : Nat} {t : TypeId} {v : VtR} (h : Blk w g t (vtA v)) : w.rangeAt g 14 (bcs (nmb v.va)) := by
 have h1 := rangeAt_take (k := 8) (rangeAt_drop (k := 14) (rangeAt_of_blk h))
 rw [bcs_nb8, ← Nat.zero_add 14]
 exact h1
def x5L (v : VtR) : List Value := (x5A v).toList
theorem x5L_one (v : VtR) : ∀ u ∈ x5L v, u.oneCell' = true := by
 intro u hu
 simp only [x5L, List.mem_cons, List.not_mem_nil, or_false] at hu
 rcases hu with rfl | rfl | rfl | rfl | rfl <;> rfl
theorem x5A_all (v : VtR) : (x5A v).all (·.oneCell') = true := all_oneCell_toArray (x5L_one v)
theorem wpList_newX5 {o : Oper} {a : Act} {w : World} {ops : Array Oper} {rest : List Oper} {Q : Exit → Act → World → Prop} (hgd : o.guard = none) (x y : Operand) (ho : o.op = .store 116 x y) (cs : Array Value) (hcs : cs.size = 5) (R : VtR) (hx : a.eval x = .pointer (some ⟨w.heap.size, 0, none⟩)) (hy : a.eval y = .agg (x5A R))
  (h : wpList Tryz.prog ops Q rest (a.put o.dst undef) (w.alloc (.cells (x5A R) 116))) : wpList Tryz.prog ops Q (o :: rest) a (w.alloc (.cells cs 116)) := by
 have ht := there_of_blk (Blk.new w 116 cs)
 rw [hcs] at ht
 refine wpList_store_mid hgd 116 x y ho w.heap.size 0 (x5A R) hx hy ht (by kernel_rfl) (x5A_all R) ?_
 rw [setCells_whole w 116 cs (x5A R) (by rw [hcs]; rfl)]
 exact h
theorem x5_at {w : World} {g : Nat} {t : TypeId} {v : VtR} (h : Blk w g t (x5A v)) {k : Nat} (hk : k < 5) : w.cell? ⟨g, k, none⟩ = some (.int .i64 (x5n v k)) := by
 rcases (by omega : k = 0 ∨ k = 1 ∨ k = 2 ∨ k = 3 ∨ k = 4) with rfl | rfl | rfl | rfl | rfl <;> exact h.cell _
theorem vtLess_any (a b : VtR) (w : World) : Calls Tryz.prog 95 #[.agg (vtA a), .agg (vtA b)] w fun e w' => e = .returned (.bool (ltVt a b)) ∧ Ext w w' := by
 have hE := ((Ext.refl w).alloc' (.cells (vtA a) 46)).alloc' (.cells (vtA b) 46)
 have HB1 := Lib.hid ((Blk.new w 46 (vtA a)).alloc (.cells (vtA b) 46))
 have HB2 := Lib.hid (show Blk ((w.alloc (.cells (vtA a) 46)).alloc (.cells (vtA b) 46)) (w.heap.size + 1) 46 (vtA b) from Blk.newAt _ _ _ _ (by simp))
 have HE := Lib.hid hE
 obtain ⟨W0, hW0⟩ : ∃ W0, (w.alloc (.cells (vtA a) 46)).alloc (.cells (vtA b) 46) = W0 := ⟨_, rfl⟩
 rw [hW0] at HB1 HB2 HE
 have hsz : W0.heap.size = w.heap.size + 2 := by rw [← hW0]; simp
 have HSZ := Lib.hid hsz
 have g1 : w.heap.size < W0.heap.size := by omega
 have g2 : w.heap.size + 1 < W0.heap.size := by omega
 obtain ⟨a0, a1, a2, a3, a4, a5, a6, a7⟩ := vt_facts HB1.out
 obtain ⟨b0, b1, b2, b3, b4, b5, b6, b7⟩ := vt_facts HB2.out
 have p1 := vt_pa HB1.out
 have p2 := vt_pa HB2.out
 have hq := fun W => run_neqN a.pa b.pa W
 have hqi := fun W => eqIn_N a.pa b.pa W
 clear hE a6 a7 b6 b7 hsz
 by_cases hpa : a.pa = b.pa
 ·rw [decide_eq_true hpa] at hq hqi
  rw [Bool.not_true] at hq
  have HPA := Lib.hid hpa
  clear hpa
  go_enter Tryz.func95, Tryz.ntmps95
  go_wp2_with (first | (with_reducible refine wpList_loadN rfl (.tmp 8) rfl w.heap.size 6 rfl a.pa p1 ?_) | (with_reducible refine wpList_loadN rfl (.tmp 10) rfl (w.heap.size + 1) 6 rfl b.pa p2 ?_) | (with_reducible refine wpList_newX5 rfl (.tmp 5) (.tmp 28) rfl _ rfl a rfl rfl ?_) | (with_reducible refine wpList_newX5 rfl (.tmp 6) (.tmp 39) rfl _ rfl b rfl rfl ?_))
  have HX := Lib.hid (((Blk.new W0 116 (x5A a))).alloc (.cells (x5A b) 116))
  have HY := Lib.hid (show Blk ((W0.alloc (.cells (x5A a) 116)).alloc (.cells (x5A b) 116)) (W0.heap.size + 1) 116 (x5A b) from Blk.newAt _ _ _ _ (by simp))
  have HE1 := Lib.hid (((Ext.refl W0).alloc' (.cells (x5A a) 116)).alloc' (.cells (x5A b) 116))
  clear p1 p2 hq hqi a0 a1 a2 a3 a4 a5 b0 b1 b2 b3 b4 b5 g1 g2
  generalize (W0.alloc (.cells (x5A a) 116)).alloc (.cells (x5A b) 116) = W1 at HX HY HE1 ⊢
  go_loopw [40, 7] (fun i _ wr => ∃ k : Nat, k ≤ 5 ∧ i = .int .i64 (k : Int) ∧ Hid (∀ j, j < k → x5n a j = x5n b j) ∧ Hid (Ext W1 wr)) (fun i _ _ => 5 - (intOf i).toNat)
  case atStart => exact ⟨0, by omega, rfl, Lib.hid (fun j hj => by omega), Lib.hid (Ext.refl _)⟩
  case round =>
   obtain ⟨k, hk, rfl, HP, HZ⟩ := hrel
   by_cases hlt : k < 5
   ·have hx := x5_at (HX.out.ext HZ.out) hlt
    have hy := x5_at (HY.out.ext HZ.out) hlt
    have i0 : (0 : Int) ≤ (k : Int) := by omega
    have i1 : (k : Int) < 5 := by omega
    by_cases hne : x5n a k = x5n b k
    ·have HP' := Lib.hid (show ∀ j, j < k + 1 → x5n a j = x5n b j from fun j hj => by
      rcases Nat.lt_or_ge j k with h | h
      ·exact HP.out j h
      ·obtain rfl : j = k := by omega
       exact hne)
     obtain ⟨z, hz⟩ : ∃ z, x5n a k = z := ⟨_, rfl⟩
     rw [hz] at hx hne
     rw [← hne] at hy
     clear hz hne
     have hz : (z != z) = false := by simp
     go_wp2_with fail
     go_quiet ((fail))
     go_wp2_with fail
     go_roundw
     case rel => exact ⟨k + 1, by omega, by go_num, HP', Lib.hid (below_drewN HZ.out _)⟩
     case measure => simp [intOf]; omega
    ·have HV := Lib.hid (ltVt_x5 HPA.out hlt HP.out hne)
     obtain ⟨z, hz⟩ : ∃ z, x5n a k = z := ⟨_, rfl⟩
     obtain ⟨y, hyy⟩ : ∃ y, x5n b k = y := ⟨_, rfl⟩
     rw [hz, hyy] at HV hne
     rw [hz] at hx
     rw [hyy] at hy
     have hzy : (z != y) = true := bne_iff_ne.2 hne
     have HZZ := Lib.hid hz
     have HYY := Lib.hid hyy
     clear hz hyy
     go_wp2_with fail
     go_quiet ((fail))
     have HZ2 := Lib.hid (below_drewN HZ.out nq)
     clear hx hy HZ
     generalize wr.drewN nq = W2 at HZ2 ⊢
     have hx := x5_at (HX.out.ext HZ2.out) hlt
     have hy := x5_at (HY.out.ext HZ2.out) hlt
     rw [HZZ.out] at hx
     rw [HYY.out] at hy
     go_wp2_with fail
     go_quiet ((fail))
     go_wp2_with fail
     go_ret
     exact ⟨by rw [HV.out]; rfl, HE.out.trans (HE1.out.trans (below_drewN HZ2.out _))⟩
   ·obtain rfl : k = 5 := by omega
    have HE2 := Lib.hid (HE1.out.trans HZ.out)
    have HW := Lib.hid (HE.out.trans HE2.out)
    have p1 := vt_va (HB1.out.ext HE2.out)
    have p2 := vt_va (HB2.out.ext HE2.out)
    obtain ⟨a0, a1, a2, a3, a4, a5, a6, a7⟩ := vt_facts (HB1.out.ext HE2.out)
    obtain ⟨b0, b1, b2, b3, b4, b5, b6, b7⟩ := vt_facts (HB2.out.ext HE2.out)
    clear a0 a1 a2 a3 a4 a6 a7 b0 b1 b2 b3 b4 b6 b7
    have hq := fun W => run_neqN a.va b.va W
    have hqi := fun W => eqIn_N a.va b.va W
    by_cases hva : a.va = b.va
    ·have HV := Lib.hid (ltVt_su HPA.out HP.out hva)
     rw [decide_eq_true hva] at hq hqi
     rw [Bool.not_true] at hq
     clear hva
     go_wp2_with (first | (with_reducible refine wpList_loadN rfl (.tmp 58) rfl w.heap.size 14 rfl a.va p1 ?_) | (with_reducible refine wpList_loadN rfl (.tmp 60) rfl (w.heap.size + 1) 14 rfl b.va p2 ?_))
     go_ret
     exact ⟨by rw [HV.out]; rfl, HW.out⟩
    ·have HV := Lib.hid (ltVt_va HPA.out HP.out hva)
     rw [decide_eq_false hva] at hq hqi
     rw [Bool.not_false] at hq
     clear hva
     go_wp2_with (first | (with_reducible refine wpList_loadN rfl (.tmp 58) rfl w.heap.size 14 rfl a.va p1 ?_) | (with_reducible refine wpList_loadN rfl (.tmp 60) rfl (w.heap.size + 1) 14 rfl b.va p2 ?_) | (with_reducible refine wpList_loadN rfl (.tmp 63) rfl w.heap.size 14 rfl a.va p1 ?_) | (with_reducible refine wpList_loadN rfl (.tmp 65) rfl (w.heap.size + 1) 14 rfl b.va p2 ?_))
     refine (hLess_any a.va b.va wr).mono ?_
     rintro e w1 ⟨rfl, he1⟩
     have HX1 := Lib.hid (HW.out.trans he1)
     clear he1
     go_wp2_with fail
     go_ret
     exact ⟨by rw [HV.out]; rfl, HX1.out⟩
 ·have HV := Lib.hid (ltVt_pa hpa)
  rw [decide_eq_false hpa] at hq hqi
  rw [Bool.not_false] at hq
  clear hpa
  go_enter Tryz.func95, Tryz.ntmps95
  go_wp2_with (first | (with_reducible refine wpList_loadN rfl (.tmp 8) rfl w.heap.size 6 rfl a.pa p1 ?_) | (with_reducible refine wpList_loadN rfl (.tmp 10) rfl (w.heap.size + 1) 6 rfl b.pa p2 ?_) | (with_reducible refine wpList_loadN rfl (.tmp 13) rfl w.heap.size 6 rfl a.pa p1 ?_) | (with_reducible refine wpList_loadN rfl (.tmp 15) rfl (w.heap.size + 1) 6 rfl b.pa p2 ?_))
  refine (hLess_any a.pa b.pa W0).mono ?_
  rintro e w1 ⟨rfl, he1⟩
  have HX := Lib.hid (HE.out.trans he1)
  clear he1
  go_wp2_with fail
  go_ret
  exact ⟨by rw [HV.out]; rfl, HX.out⟩
end Go.Proofs.YtbfepgjeecndiaaGreat

/- The reference's order of names and votes. -/
namespace Go.Proofs.YtbfepgjeecndiaaGreat
set_option maxRecDepth 100000
set_option maxHeartbeats 8000000
open Go.RowKit
set_option linter.unusedVariables false
set_option linter.unusedSimpArgs false
attribute [local go_sem ↓] Go.wp_at_zero Go.wp_at_succ
theorem rNumber_any (x : UInt64) (w : World) : Calls Tryz.prog 117 #[.agg (nmc x)] w fun e w' => e = .returned (.int .u64 (un x)) ∧ Ext w w' := by
 have hl := nmb_length x
 obtain ⟨W0, hW0⟩ : ∃ W0, w.alloc (.cells (nmc x) 44) = W0 := ⟨_, rfl⟩
 have HB := Lib.hid (show Blk W0 w.heap.size 44 (nmc x) from by rw [← hW0]; exact Blk.new _ _ _)
 have HE := Lib.hid (show Ext w W0 from by rw [← hW0]; exact (Ext.refl w).alloc' _)
 go_enter Tryz.func117, Tryz.ntmps117
 go_wp2_with fail
 clear hW0
 go_loopw [3, 4] (fun v i wr => ∃ k : Nat, k ≤ 8 ∧ i = .int .i64 (k : Int) ∧ v = .int .u64 (beNat ((nmb x).take k)) ∧ W0 = wr) (fun _ i _ => 8 - (intOf i).toNat)
 case atStart => exact ⟨0, by omega, rfl, rfl, rfl⟩
 case round =>
  obtain ⟨k, hk, rfl, rfl, rfl⟩ := hrel
  by_cases hlt : k < 8
  ·have hix : W0.cell? ⟨w.heap.size, k, none⟩ = some (.int .u8 (((nmb x).getD k 0).toNat : Int)) := by
    rw [HB.out.cell k]
    have hl := nmb_length x
    simp [nmc, bcs, bv, hl, hlt]
   have i1 : (k : Int) < 8 := by omega
   have hb := beNat_lt ((nmb x).take k)
   rw [List.length_take, hl, Nat.min_eq_left (by omega)] at hb
   have hb7 : beNat ((nmb x).take k) < 72057594037927936 := Nat.lt_of_lt_of_le hb (Nat.pow_le_pow_right (n := 256) (j := 7) (by omega) (by omega))
   have hor := or_byte _ ((nmb x).getD k 0) hb7
   have HS := Lib.hid (show beNat ((nmb x).take (k + 1)) = beNat ((nmb x).take k) * 256 + ((nmb x).getD k 0).toNat by rw [take_get _ _ (by omega), beNat_snoc])
   clear hb hb7 hl
   generalize beNat ((nmb x).take k) = a at *
   generalize (nmb x).getD k 0 = c at *
   go_wp2_with fail
   go_roundw
   case rel => exact ⟨k + 1, by omega, by go_num, by rw [HS.out]; go_num, by first | rfl | trivial⟩
   case measure => simp [intOf]; omega
  ·have HS := Lib.hid (show (beNat ((nmb x).take k) : Int) = un x by rw [List.take_of_length_le (by omega), beNat_nmb]; rfl)
   have i1 : ¬ (k : Int) < 8 := by omega
   clear hl
   generalize beNat ((nmb x).take k) = a at *
   go_wp2_with fail
   go_ret
   exact ⟨by rw [← HS.out]; rfl, HE.out⟩
theorem rLess_any (x y : UInt64) (w : World) : Calls Tryz.prog 99 #[.agg (nmc x), .agg (nmc y)] w fun e w' => e = .returned (.bool (decide (un x < un y))) ∧ Ext w w' := by
 have hE := ((Ext.refl w).alloc' (.cells (nmc x) 44)).alloc' (.cells (nmc y) 44)
 have HB1 := Lib.hid ((Blk.new w 44 (nmc x)).alloc (.cells (nmc y) 44))
 have HB2 := Lib.hid (show Blk ((w.alloc (.cells (nmc x) 44)).alloc (.cells (nmc y) 44)) (w.heap.size + 1) 44 (nmc y) from Blk.newAt _ _ _ _ (by simp))
 have HE := Lib.hid hE
 obtain ⟨W0, hW0⟩ : ∃ W0, (w.alloc (.cells (nmc x) 44)).alloc (.cells (nmc y) 44) = W0 := ⟨_, rfl⟩
 rw [hW0] at HB1 HB2 HE
 have HC := Lib.hid (fun (W : World) (h : Ext W0 W) => And.intro (cells8 (HB1.out.ext h)) (cells8 (HB2.out.ext h)))
 clear hE
 go_enter Tryz.func99, Tryz.ntmps99
 go_wp2_with fail
 refine wp_region_plan (S := fun W => Ext W0 W) (by kernel_rfl) (by kernel_rfl) ((Ext.refl W0).drew') ?_
 (refine pr 0 (oi := ⟨some 5, .load 44 (.tmp 2), 44, "ref.go:30", #[], none⟩) (v := ?_) rfl (by kernel_rfl) (by rfl) ?h ?_; case h => (intro W hSW; obtain ⟨c1, c2⟩ := HC.out W hSW; go_simp <;> with_reducible rfl))
 try simp only [lays]
 (refine plan_take (i := 1) (oi := ⟨some 6, .call { callee := .value (.func 117), args := #[.tmp 5], argTypes := #[44] }, 61, "ref.go:30", #[⟨0, .data⟩], none⟩) (v := ?_) rfl (by kernel_rfl) (by kernel_rfl) (fx_call (by rfl) (fun W hSW K hK => ?hy1_1)) ?_; case hy1_1 => (go_simp; go_at_call 117; (with_reducible refine (rNumber_any x W).mono ?_); rintro e w1 ⟨rfl, he1⟩; exact hK.out _ (hSW.trans he1)))
 try simp only [lays]
 (refine pr 2 (oi := ⟨some 7, .load 44 (.tmp 3), 44, "ref.go:30", #[], none⟩) (v := ?_) rfl (by kernel_rfl) (by rfl) ?h ?_; case h => (intro W hSW; obtain ⟨c1, c2⟩ := HC.out W hSW; go_simp <;> with_reducible rfl))
 try simp only [lays]
 (refine plan_take (i := 3) (oi := ⟨some 8, .call { callee := .value (.func 117), args := #[.tmp 7], argTypes := #[44] }, 61, "ref.go:30", #[⟨2, .data⟩, ⟨1, .chain⟩], none⟩) (v := ?_) rfl (by kernel_rfl) (by kernel_rfl) (fx_call (by rfl) (fun W hSW K hK => ?hy1_3)) ?_; case hy1_3 => (go_simp; go_at_call 117; (with_reducible refine (rNumber_any y W).mono ?_); rintro e w1 ⟨rfl, he1⟩; exact hK.out _ (hSW.trans he1)))
 try simp only [lays]
 (refine pr 4 (oi := ⟨some 9, .binOp .lss 61 (.tmp 6) (.tmp 8) 61, 4, "ref.go:30", #[⟨1, .data⟩, ⟨3, .data⟩], none⟩) (v := ?_) rfl (by kernel_rfl) (by rfl) ?h ?_; case h => (intro W hSW; go_simp <;> with_reducible rfl))
 try simp only [lays]
 (refine pr 5 (oi := ⟨some 4, .assign (.tmp 9), 4, "ref.go:30", #[⟨4, .data⟩, ⟨3, .chain⟩, ⟨0, .phase⟩, ⟨1, .phase⟩, ⟨2, .phase⟩, ⟨3, .phase⟩, ⟨4, .phase⟩], none⟩) (v := ?_) rfl (by kernel_rfl) (by rfl) ?h ?_; case h => (intro W hSW; go_simp <;> with_reducible rfl))
 try simp only [lays]
 refine Plan.done (by kernel_rfl) (fun W hSW => ?_)
 have HX := Lib.hid (HE.out.trans hSW)
 clear hSW
 go_wp2_with fail
 go_ret
 exact ⟨rfl, HX.out⟩
theorem rVtLess_any (a b : VtR) (w : World) : Calls Tryz.prog 78 #[.agg (vtA a), .agg (vtA b)] w fun e w' => e = .returned (.bool (ltVt a b)) ∧ Ext w w' := by
 have hE := ((Ext.refl w).alloc' (.cells (vtA a) 46)).alloc' (.cells (vtA b) 46)
 have HB1 := Lib.hid ((Blk.new w 46 (vtA a)).alloc (.cells (vtA b) 46))
 have HB2 := Lib.hid (show Blk ((w.alloc (.cells (vtA a) 46)).alloc (.cells (vtA b) 46)) (w.heap.size + 1) 46 (vtA b) from Blk.newAt _ _ _ _ (by simp))
 have HE := Lib.hid hE
 obtain ⟨W0, hW0⟩ : ∃ W0, (w.alloc (.cells (vtA a) 46)).alloc (.cells (vtA b) 46) = W0 := ⟨_, rfl⟩
 rw [hW0] at HB1 HB2 HE
 have hsz : W0.heap.size = w.heap.size + 2 := by rw [← hW0]; simp
 have HSZ := Lib.hid hsz
 have g1 : w.heap.size < W0.heap.size := by omega
 have g2 : w.heap.size + 1 < W0.heap.size := by omega
 obtain ⟨a0, a1, a2, a3, a4, a5, a6, a7⟩ := vt_facts HB1.out
 obtain ⟨b0, b1, b2, b3, b4, b5, b6, b7⟩ := vt_facts HB2.out
 have p1 := vt_pa HB1.out
 have p2 := vt_pa HB2.out
 have hq := fun W => run_neqN a.pa b.pa W
 have hqi := fun W => eqIn_N a.pa b.pa W
 clear hE a6 a7 b6 b7 hsz
 by_cases hpa : a.pa = b.pa
 ·rw [decide_eq_true hpa] at hq hqi
  rw [Bool.not_true] at hq
  have HPA := Lib.hid hpa
  clear hpa
  go_enter Tryz.func78, Tryz.ntmps78
  go_wp2_with (first | (with_reducible refine wpList_loadN rfl (.tmp 8) rfl w.heap.size 6 rfl a.pa p1 ?_) | (with_reducible refine wpList_loadN rfl (.tmp 10) rfl (w.heap.size + 1) 6 rfl b.pa p2 ?_) | (with_reducible refine wpList_newX5 rfl (.tmp 5) (.tmp 28) rfl _ rfl a rfl rfl ?_) | (with_reducible refine wpList_newX5 rfl (.tmp 6) (.tmp 39) rfl _ rfl b rfl rfl ?_))
  have HX := Lib.hid (((Blk.new W0 116 (x5A a))).alloc (.cells (x5A b) 116))
  have HY := Lib.hid (show Blk ((W0.alloc (.cells (x5A a) 116)).alloc (.cells (x5A b) 116)) (W0.heap.size + 1) 116 (x5A b) from Blk.newAt _ _ _ _ (by simp))
  have HE1 := Lib.hid (((Ext.refl W0).alloc' (.cells (x5A a) 116)).alloc' (.cells (x5A b) 116))
  clear p1 p2 hq hqi a0 a1 a2 a3 a4 a5 b0 b1 b2 b3 b4 b5 g1 g2
  generalize (W0.alloc (.cells (x5A a) 116)).alloc (.cells (x5A b) 116) = W1 at HX HY HE1 ⊢
  go_loopw [7] (fun i wr => ∃ k : Nat, k ≤ 5 ∧ i = .int .i64 (k : Int) ∧ Hid (∀ j, j < k → x5n a j = x5n b j) ∧ Hid (Ext W1 wr)) (fun i _ => 5 - (intOf i).toNat)
  case atStart => exact ⟨0, by omega, rfl, Lib.hid (fun j hj => by omega), Lib.hid (Ext.refl _)⟩
  case round =>
   obtain ⟨k, hk, rfl, HP, HZ⟩ := hrel
   by_cases hlt : k < 5
   ·have hx := x5_at (HX.out.ext HZ.out) hlt
    have hy := x5_at (HY.out.ext HZ.out) hlt
    have i0 : (0 : Int) ≤ (k : Int) := by omega
    have i1 : (k : Int) < 5 := by omega
    by_cases hne : x5n a k = x5n b k
    ·have HP' := Lib.hid (show ∀ j, j < k + 1 → x5n a j = x5n b j from fun j hj => by
      rcases Nat.lt_or_ge j k with h | h
      ·exact HP.out j h
      ·obtain rfl : j = k := by omega
       exact hne)
     obtain ⟨z, hz⟩ : ∃ z, x5n a k = z := ⟨_, rfl⟩
     rw [hz] at hx hne
     rw [← hne] at hy
     clear hz hne
     have hz : (z != z) = false := by simp
     go_wp2_with fail
     go_quiet ((fail))
     go_wp2_with fail
     go_roundw
     case rel => exact ⟨k + 1, by omega, by go_num, HP', Lib.hid (below_drewN HZ.out _)⟩
     case measure => simp [intOf]; omega
    ·have HV := Lib.hid (ltVt_x5 HPA.out hlt HP.out hne)
     obtain ⟨z, hz⟩ : ∃ z, x5n a k = z := ⟨_, rfl⟩
     obtain ⟨y, hyy⟩ : ∃ y, x5n b k = y := ⟨_, rfl⟩
     rw [hz, hyy] at HV hne
     rw [hz] at hx
     rw [hyy] at hy
     have hzy : (z != y) = true := bne_iff_ne.2 hne
     have HZZ := Lib.hid hz
     have HYY := Lib.hid hyy
     clear hz hyy
     go_wp2_with fail
     go_quiet ((fail))
     have HZ2 := Lib.hid (below_drewN HZ.out nq)
     clear hx hy HZ
     generalize wr.drewN nq = W2 at HZ2 ⊢
     have hx := x5_at (HX.out.ext HZ2.out) hlt
     have hy := x5_at (HY.out.ext HZ2.out) hlt
     rw [HZZ.out] at hx
     rw [HYY.out] at hy
     go_wp2_with fail
     go_quiet ((fail))
     go_wp2_with fail
     go_ret
     exact ⟨by rw [HV.out]; rfl, HE.out.trans (HE1.out.trans (below_drewN HZ2.out _))⟩
   ·obtain rfl : k = 5 := by omega
    have HE2 := Lib.hid (HE1.out.trans HZ.out)
    have HW := Lib.hid (HE.out.trans HE2.out)
    have p1 := vt_va (HB1.out.ext HE2.out)
    have p2 := vt_va (HB2.out.ext HE2.out)
    obtain ⟨a0, a1, a2, a3, a4, a5, a6, a7⟩ := vt_facts (HB1.out.ext HE2.out)
    obtain ⟨b0, b1, b2, b3, b4, b5, b6, b7⟩ := vt_facts (HB2.out.ext HE2.out)
    clear a0 a1 a2 a3 a4 a6 a7 b0 b1 b2 b3 b4 b6 b7
    have hq := fun W => run_neqN a.va b.va W
    have hqi := fun W => eqIn_N a.va b.va W
    by_cases hva : a.va = b.va
    ·have HV := Lib.hid (ltVt_su HPA.out HP.out hva)
     rw [decide_eq_true hva] at hq hqi
     rw [Bool.not_true] at hq
     clear hva
     go_wp2_with (first | (with_reducible refine wpList_loadN rfl (.tmp 58) rfl w.heap.size 14 rfl a.va p1 ?_) | (with_reducible refine wpList_loadN rfl (.tmp 60) rfl (w.heap.size + 1) 14 rfl b.va p2 ?_))
     go_ret
     exact ⟨by rw [HV.out]; rfl, HW.out⟩
    ·have HV := Lib.hid (ltVt_va HPA.out HP.out hva)
     rw [decide_eq_false hva] at hq hqi
     rw [Bool.not_false] at hq
     clear hva
     go_wp2_with (first | (with_reducible refine wpList_loadN rfl (.tmp 58) rfl w.heap.size 14 rfl a.va p1 ?_) | (with_reducible refine wpList_loadN rfl (.tmp 60) rfl (w.heap.size + 1) 14 rfl b.va p2 ?_) | (with_reducible refine wpList_loadN rfl (.tmp 63) rfl w.heap.size 14 rfl a.va p1 ?_) | (with_reducible refine wpList_loadN rfl (.tmp 65) rfl (w.heap.size + 1) 14 rfl b.va p2 ?_))
     refine (rLess_any a.va b.va wr).mono ?_
     rintro e w1 ⟨rfl, he1⟩
     have HX1 := Lib.hid (HW.out.trans he1)
     clear he1
     go_wp2_with fail
     go_ret
     exact ⟨by rw [HV.out]; rfl, HX1.out⟩
 ·have HV := Lib.hid (ltVt_pa hpa)
  rw [decide_eq_false hpa] at hq hqi
  rw [Bool.not_false] at hq
  clear hpa
  go_enter Tryz.func78, Tryz.ntmps78
  go_wp2_with (first | (with_reducible refine wpList_loadN rfl (.tmp 8) rfl w.heap.size 6 rfl a.pa p1 ?_) | (with_reducible refine wpList_loadN rfl (.tmp 10) rfl (w.heap.size + 1) 6 rfl b.pa p2 ?_) | (with_reducible refine wpList_loadN rfl (.tmp 13) rfl w.heap.size 6 rfl a.pa p1 ?_) | (with_reducible refine wpList_loadN rfl (.tmp 15) rfl (w.heap.size + 1) 6 rfl b.pa p2 ?_))
  refine (rLess_any a.pa b.pa W0).mono ?_
  rintro e w1 ⟨rfl, he1⟩
  have HX := Lib.hid (HE.out.trans he1)
  clear he1
  go_wp2_with fail
  go_ret
  exact ⟨by rw [HV.out]; rfl, HX.out⟩
end Go.Proofs.YtbfepgjeecndiaaGreat
