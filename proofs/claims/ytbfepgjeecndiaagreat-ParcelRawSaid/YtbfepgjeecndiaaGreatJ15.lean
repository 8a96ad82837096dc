/- The order of votes (the program's). -/
import Derived.Lib.BytesEntry
import Derived.Test.YtbfepgjeecndiaaGreatJ12
import Derived.Test.YtbfepgjeecndiaaGreatJ14
namespace Go.Proofs.YtbfepgjeecndiaaGreat
set_option maxRecDepth 100000
set_option maxHeartbeats 8000000
open Go.RowKit
set_option linter.unusedVariables false
set_option linter.unusedSimpArgs false
attribute [local go_sem ↓] Go.wp_at_zero Go.wp_at_succ
theorem eqIn_N (a b : UInt64) (w : World) : (Op.equalIn 10000 44 (.agg (nmc a)) (.agg (nmc b))).run Tryz.prog w = .ok (decide (a = b)) w := by
 have := run_eqN a b w
 rw [run_eql_struct] at this
 cases h : (Op.equalIn 10000 44 (.agg (nmc a)) (.agg (nmc b))).run Tryz.prog w with
 | ok r w' => rw [h] at this; simp at this; obtain ⟨h1, h2⟩ := this; subst h1; subst h2; rfl
 | _ => rw [h] at this; simp at this
theorem run_neqN (a b : UInt64) (w : World) : (binOp .neq 44 (.agg (nmc a)) (.agg (nmc b))).run Tryz.prog w = .ok (.bool (!decide (a = b))) w := by
 rw [run_neq_struct, eqIn_N a b w]
 rfl
def x5 (v : VtR) : List Int := [v.sl, v.ro, v.k, v.si, v.ch]
abbrev x5A (v : VtR) : Array Value := #[.int .i64 v.sl, .int .i64 v.ro, .int .i64 v.k, .int .i64 v.si, .int .i64 v.ch]
def x5n (v : VtR) (i : Nat) : Int := (x5 v).getD i 0
theorem ltVt_pa {a b : VtR} (h : a.pa ≠ b.pa) : ltVt a b = decide (un a.pa < un b.pa) := by
 unfold ltVt vtKey lexI
 rw [if_neg (fun e => h (un_inj e))]
theorem ltVt_x5 {a b : VtR} (h : a.pa = b.pa) {k : Nat} (hk : k < 5) (he : ∀ j, j < k → x5n a j = x5n b j) (hn : x5n a k ≠ x5n b k) : ltVt a b = decide (x5n a k < x5n b k) := by
 have e0 : 0 < k → a.sl = b.sl := fun h => he 0 h
 have e1 : 1 < k → a.ro = b.ro := fun h => he 1 h
 have e2 : 2 < k → a.k = b.k := fun h => he 2 h
 have e3 : 3 < k → a.si = b.si := fun h => he 3 h
 unfold ltVt vtKey
 rcases (by omega : k = 0 ∨ k = 1 ∨ k = 2 ∨ k = 3 ∨ k = 4) with rfl | rfl | rfl | rfl | rfl
 ·have hn' : a.sl ≠ b.sl := hn
  simp only [lexI, h, if_true, if_neg hn']; rfl
 ·have hn' : a.ro ≠ b.ro := hn
  simp only [lexI, h, e0 (by omega), if_true, if_neg hn']; rfl
 ·have hn' : a.k ≠ b.k := hn
  simp only [lexI, h, e0 (by omega), e1 (by omega), if_true, if_neg hn']; rfl
 ·have hn' : a.si ≠ b.si := hn
  simp only [lexI, h, e0 (by omega), e1 (by omega), e2 (by omega), if_true, if_neg hn']; rfl
 ·have hn' : a.ch ≠ b.ch := hn
  simp only [lexI, h, e0 (by omega), e1 (by omega), e2 (by omega), e3 (by omega), if_true, if_neg hn']; rfl
theorem ltVt_va {a b : VtR} (h : a.pa = b.pa) (he : ∀ j, j < 5 → x5n a j = x5n b j) (hn : a.va ≠ b.va) : ltVt a b = decide (un a.va < un b.va) := by
 have e0 : a.sl = b.sl := he 0 (by omega)
 have e1 : a.ro = b.ro := he 1 (by omega)
 have e2 : a.k = b.k := he 2 (by omega)
 have e3 : a.si = b.si := he 3 (by omega)
 have e4 : a.ch = b.ch := he 4 (by omega)
 unfold ltVt vtKey
 simp only [lexI, h, e0, e1, e2, e3, e4, if_true, if_neg (fun e => hn (un_inj e) : ¬ un a.va = un b.va)]
theorem ltVt_su {a b : VtR} (h : a.pa = b.pa) (he : ∀ j, j < 5 → x5n a j = x5n b j) (hn : a.va = b.va) : ltVt a b = decide (a.su < b.su) := by
 have e0 : a.sl = b.sl := he 0 (by omega)
 have e1 : a.ro = b.ro := he 1 (by omega)
 have e2 : a.k = b.k := he 2 (by omega)
 have e3 : a.si = b.si := he 3 (by omega)
 have e4 : a.ch = b.ch := he 4 (by omega)
 unfold ltVt vtKey
 simp only [lexI, h, e0, e1, e2, e3, e4, hn, if_true]
 split
 ·rename_i e; rw [e]; simp
 ·rfl
theorem vt_pa {w : World} {g : Nat} {t : TypeId} {v : VtR} (h : Blk w g t (vtA v)) : w.rangeAt g 6 (bcs (nmb v.pa)) := by
 have h1 := rangeAt_take (k := 8) (rangeAt_drop (k := 6) (rangeAt_of_blk h))
 rw [bcs_nb8, ← Nat.zero_add 6]
 exact h1
theorem vt_va {w : World} {g : Nat} {t : TypeId} {v : VtR} (h : Blk w g t (vtA v)) : w.rangeAt g 14 (bcs (nmb v.va)) := by
 have h1 := rangeAt_take (k := 8) (rangeAt_drop (k := 14) (rangeAt_of_blk h))
 rw [bcs_nb8, ← Nat.zero_add 14]
 exact h1
def x5L (v : VtR) : List Value := (x5A v).toList
theorem x5L_one (v : VtR) : ∀ u ∈ x5L v, u.oneCell' = true := by
 intro u hu
 simp only [x5L, List.mem_cons, List.not_mem_nil, or_false] at hu
 rcases hu with rfl | rfl | rfl | rfl | rfl <;> rfl
theorem x5A_all (v : VtR) : (x5A v).all (·.oneCell') = true := all_oneCell_toArray (x5L_one v)
theorem wpList_newX5 {o : Oper} {a : Act} {w : World} {ops : Array Oper} {rest : List Oper} {Q : Exit → Act → World → Prop} (hgd : o.guard = none) (x y : Operand) (ho : o.op = .store 116 x y) (cs : Array Value) (hcs : cs.size = 5) (R : VtR) (hx : a.eval x = .pointer (some ⟨w.heap.size, 0, none⟩)) (hy : a.eval y = .agg (x5A R))
  (h : wpList Tryz.prog ops Q rest (a.put o.dst undef) (w.alloc (.cells (x5A R) 116))) : wpList Tryz.prog ops Q (o :: rest) a (w.alloc (.cells cs 116)) := by
 have ht := there_of_blk (Blk.new w 116 cs)
 rw [hcs] at ht
 refine wpList_store_mid hgd 116 x y ho w.heap.size 0 (x5A R) hx hy ht (by kernel_rfl) (x5A_all R) ?_
 rw [setCells_whole w 116 cs (x5A R) (by rw [hcs]; rfl)]
 exact h
theorem x5_at {w : World} {g : Nat} {t : TypeId} {v : VtR} (h : Blk w g t (x5A v)) {k : Nat} (hk : k < 5) : w.cell? ⟨g, k, none⟩ = some (.int .i64 (x5n v k)) := by
 rcases (by omega : k = 0 ∨ k = 1 ∨ k = 2 ∨ k = 3 ∨ k = 4) with rfl | rfl | rfl | rfl | rfl <;> exact h.cell _
theorem vtLess_any (a b : VtR) (w : World) : Calls Tryz.prog 95 #[.agg (vtA a), .agg (vtA b)] w fun e w' => e = .returned (.bool (ltVt a b)) ∧ Ext w w' := by
 have hE := ((Ext.refl w).alloc' (.cells (vtA a) 46)).alloc' (.cells (vtA b) 46)
 have HB1 := Lib.hid ((Blk.new w 46 (vtA a)).alloc (.cells (vtA b) 46))
 have HB2 := Lib.hid (show Blk ((w.alloc (.cells (vtA a) 46)).alloc (.cells (vtA b) 46)) (w.heap.size + 1) 46 (vtA b) from Blk.newAt _ _ _ _ (by simp))
 have HE := Lib.hid hE
 obtain ⟨W0, hW0⟩ : ∃ W0, (w.alloc (.cells (vtA a) 46)).alloc (.cells (vtA b) 46) = W0 := ⟨_, rfl⟩
 rw [hW0] at HB1 HB2 HE
 have hsz : W0.heap.size = w.heap.size + 2 := by rw [← hW0]; simp
 have HSZ := Lib.hid hsz
 have g1 : w.heap.size < W0.heap.size := by omega
 have g2 : w.heap.size + 1 < W0.heap.size := by omega
 obtain ⟨a0, a1, a2, a3, a4, a5, a6, a7⟩ := vt_facts HB1.out
 obtain ⟨b0, b1, b2, b3, b4, b5, b6, b7⟩ := vt_facts HB2.out
 have p1 := vt_pa HB1.out
 have p2 := vt_pa HB2.out
 have hq := fun W => run_neqN a.pa b.pa W
 have hqi := fun W => eqIn_N a.pa b.pa W
 clear hE a6 a7 b6 b7 hsz
 by_cases hpa : a.pa = b.pa
 ·rw [decide_eq_true hpa] at hq hqi
  rw [Bool.not_true] at hq
  have HPA := Lib.hid hpa
  clear hpa
  go_enter Tryz.func95, Tryz.ntmps95
  go_wp2_with (first | (with_reducible refine wpList_loadN rfl (.tmp 8) rfl w.heap.size 6 rfl a.pa p1 ?_) | (with_reducible refine wpList_loadN rfl (.tmp 10) rfl (w.heap.size + 1) 6 rfl b.pa p2 ?_) | (with_reducible refine wpList_newX5 rfl (.tmp 5) (.tmp 28) rfl _ rfl a rfl rfl ?_) | (with_reducible refine wpList_newX5 rfl (.tmp 6) (.tmp 39) rfl _ rfl b rfl rfl ?_))
  have HX := Lib.hid (((Blk.new W0 116 (x5A a))).alloc (.cells (x5A b) 116))
  have HY := Lib.hid (show Blk ((W0.alloc (.cells (x5A a) 116)).alloc (.cells (x5A b) 116)) (W0.heap.size + 1) 116 (x5A b) from Blk.newAt _ _ _ _ (by simp))
  have HE1 := Lib.hid (((Ext.refl W0).alloc' (.cells (x5A a) 116)).alloc' (.cells (x5A b) 116))
  clear p1 p2 hq hqi a0 a1 a2 a3 a4 a5 b0 b1 b2 b3 b4 b5 g1 g2
  generalize (W0.alloc (.cells (x5A a) 116)).alloc (.cells (x5A b) 116) = W1 at HX HY HE1 ⊢
  go_loopw [40, 7] (fun i _ wr => ∃ k : Nat, k ≤ 5 ∧ i = .int .i64 (k : Int) ∧ Hid (∀ j, j < k → x5n a j = x5n b j) ∧ Hid (Ext W1 wr)) (fun i _ _ => 5 - (intOf i).toNat)
  case atStart => exact ⟨0, by omega, rfl, Lib.hid (fun j hj => by omega), Lib.hid (Ext.refl _)⟩
  case round =>
   obtain ⟨k, hk, rfl, HP, HZ⟩ := hrel
   by_cases hlt : k < 5
   ·have hx := x5_at (HX.out.ext HZ.out) hlt
    have hy := x5_at (HY.out.ext HZ.out) hlt
    have i0 : (0 : Int) ≤ (k : Int) := by omega
    have i1 : (k : Int) < 5 := by omega
    by_cases hne : x5n a k = x5n b k
    ·have HP' := Lib.hid (show ∀ j, j < k + 1 → x5n a j = x5n b j from fun j hj => by
      rcases Nat.lt_or_ge j k with h | h
      ·exact HP.out j h
      ·obtain rfl : j = k := by omega
       exact hne)
     obtain ⟨z, hz⟩ : ∃ z, x5n a k = z := ⟨_, rfl⟩
     rw [hz] at hx hne
     rw [← hne] at hy
     clear hz hne
     have hz : (z != z) = false := by simp
     go_wp2_with fail
     go_quiet ((fail))
     go_wp2_with fail
     go_roundw
     case rel => exact ⟨k + 1, by omega, by go_num, HP', Lib.hid (below_drewN HZ.out _)⟩
     case measure => simp [intOf]; omega
    ·have HV := Lib.hid (ltVt_x5 HPA.out hlt HP.out hne)
     obtain ⟨z, hz⟩ : ∃ z, x5n a k = z := ⟨_, rfl⟩
     obtain ⟨y, hyy⟩ : ∃ y, x5n b k = y := ⟨_, rfl⟩
     rw [hz, hyy] at HV hne
     rw [hz] at hx
     rw [hyy] at hy
     have hzy : (z != y) = true := bne_iff_ne.2 hne
     have HZZ := Lib.hid hz
     have HYY := Lib.hid hyy
     clear hz hyy
     go_wp2_with fail
     go_quiet ((fail))
     have HZ2 := Lib.hid (below_drewN HZ.out nq)
     clear hx hy HZ
     generalize wr.drewN nq = W2 at HZ2 ⊢
     have hx := x5_at (HX.out.ext HZ2.out) hlt
     have hy := x5_at (HY.out.ext HZ2.out) hlt
     rw [HZZ.out] at hx
     rw [HYY.out] at hy
     go_wp2_with fail
     go_quiet ((fail))
     go_wp2_with fail
     go_ret
     exact ⟨by rw [HV.out]; rfl, HE.out.trans (HE1.out.trans (below_drewN HZ2.out _))⟩
   ·obtain rfl : k = 5 := by omega
    have HE2 := Lib.hid (HE1.out.trans HZ.out)
    have HW := Lib.hid (HE.out.trans HE2.out)
    have p1 := vt_va (HB1.out.ext HE2.out)
    have p2 := vt_va (HB2.out.ext HE2.out)
    obtain ⟨a0, a1, a2, a3, a4, a5, a6, a7⟩ := vt_facts (HB1.out.ext HE2.out)
    obtain ⟨b0, b1, b2, b3, b4, b5, b6, b7⟩ := vt_facts (HB2.out.ext HE2.out)
    clear a0 a1 a2 a3 a4 a6 a7 b0 b1 b2 b3 b4 b6 b7
    have hq := fun W => run_neqN a.va b.va W
    have hqi := fun W => eqIn_N a.va b.va W
    by_cases hva : a.va = b.va
    ·have HV := Lib.hid (ltVt_su HPA.out HP.out hva)
     rw [decide_eq_true hva] at hq hqi
     rw [Bool.not_true] at hq
     clear hva
     go_wp2_with (first | (with_reducible refine wpList_loadN rfl (.tmp 58) rfl w.heap.size 14 rfl a.va p1 ?_) | (with_reducible refine wpList_loadN rfl (.tmp 60) rfl (w.heap.size + 1) 14 rfl b.va p2 ?_))
     go_ret
     exact ⟨by rw [HV.out]; rfl, HW.out⟩
    ·have HV := Lib.hid (ltVt_va HPA.out HP.out hva)
     rw [decide_eq_false hva] at hq hqi
     rw [Bool.not_false] at hq
     clear hva
     go_wp2_with (first | (with_reducible refine wpList_loadN rfl (.tmp 58) rfl w.heap.size 14 rfl a.va p1 ?_) | (with_reducible refine wpList_loadN rfl (.tmp 60) rfl (w.heap.size + 1) 14 rfl b.va p2 ?_) | (with_reducible refine wpList_loadN rfl (.tmp 63) rfl w.heap.size 14 rfl a.va p1 ?_) | (with_reducible refine wpList_loadN rfl (.tmp 65) rfl (w.heap.size + 1) 14 rfl b.va p2 ?_))
     refine (hLess_any a.va b.va wr).mono ?_
     rintro e w1 ⟨rfl, he1⟩
     have HX1 := Lib.hid (HW.out.trans he1)
     clear he1
     go_wp2_with fail
     go_ret
     exact ⟨by rw [HV.out]; rfl, HX1.out⟩
 ·have HV := Lib.hid (ltVt_pa hpa)
  rw [decide_eq_false hpa] at hq hqi
  rw [Bool.not_false] at hq
  clear hpa
  go_enter Tryz.func95, Tryz.ntmps95
  go_wp2_with (first | (with_reducible refine wpList_loadN rfl (.tmp 8) rfl w.heap.size 6 rfl a.pa p1 ?_) | (with_reducible refine wpList_loadN rfl (.tmp 10) rfl (w.heap.size + 1) 6 rfl b.pa p2 ?_) | (with_reducible refine wpList_loadN rfl (.tmp 13) rfl w.heap.size 6 rfl a.pa p1 ?_) | (with_reducible refine wpList_loadN rfl (.tmp 15) rfl (w.heap.size + 1) 6 rfl b.pa p2 ?_))
  refine (hLess_any a.pa b.pa W0).mono ?_
  rintro e w1 ⟨rfl, he1⟩
  have HX := Lib.hid (HE.out.trans he1)
  clear he1
  go_wp2_with fail
  go_ret
  exact ⟨by rw [HV.out]; rfl, HX.out⟩
end Go.Proofs.YtbfepgjeecndiaaGreat

/- The order of bytes; bytes.Compare; the order of signed votes (the program's). -/
namespace Go.Proofs.YtbfepgjeecndiaaGreat
set_option maxRecDepth 100000
set_option maxHeartbeats 8000000
open Go.RowKit
set_option linter.unusedVariables false
set_option linter.unusedSimpArgs false
attribute [local go_sem ↓] Go.wp_at_zero Go.wp_at_succ
def lexB : List UInt8 → List UInt8 → Bool
 | _, [] => false
 | [], _ :: _ => true
 | x :: r, y :: s => if x < y then true else if y < x then false else lexB r s
theorem u8_eq {x y : UInt8} (h1 : ¬ x < y) (h2 : ¬ y < x) : x = y := UInt8.le_antisymm (UInt8.not_lt.1 h2) (UInt8.not_lt.1 h1)
theorem cmp_lex : ∀ (a b : List UInt8), (Lib.compareBytes a b < 0) = (lexB a b = true) ∧ (Lib.compareBytes a b = 0 ↔ a = b) ∧ -1 ≤ Lib.compareBytes a b ∧ Lib.compareBytes a b ≤ 1
 | [], [] => by simp [Lib.compareBytes, lexB]
 | [], _ :: _ => by simp [Lib.compareBytes, lexB]
 | _ :: _, [] => by simp [Lib.compareBytes, lexB]
 | x :: r, y :: s => by
  have ih := cmp_lex r s
  unfold Lib.compareBytes lexB
  by_cases h1 : x < y
  ·have : x ≠ y := fun e => by subst e; exact UInt8.lt_irrefl _ h1
   simp [h1, this]
  ·by_cases h2 : y < x
   ·have : x ≠ y := fun e => by subst e; exact UInt8.lt_irrefl _ h2
    simp [h1, h2, this]
   ·obtain rfl := u8_eq h1 h2
    simpa [h1] using ih
theorem bytesLess_lex : ∀ (a b : List UInt8), Op.bytesLess a b = lexB a b
 | [], [] => rfl
 | _ :: _, [] => rfl
 | [], _ :: _ => rfl
 | x :: r, y :: s => by
  have ih := bytesLess_lex r s
  unfold Op.bytesLess lexB
  rw [ih]
  by_cases h1 : x < y
  ·simp [h1]
  ·by_cases h2 : y < x
   ·have : x ≠ y := fun e => by subst e; exact UInt8.lt_irrefl _ h2
    simp [h1, h2, this]
   ·obtain rfl := u8_eq h1 h2
    simp [h1]
theorem lexB_irrefl (a : List UInt8) : lexB a a = false := by
 induction a with
 | nil => rfl
 | cons x r ih => unfold lexB; simp [UInt8.lt_irrefl, ih]
theorem lexB_trans : ∀ (a b c : List UInt8), lexB a b = true → lexB b c = true → lexB a c = true
 | _, [], _, h, _ => by simp [lexB] at h
 | _, _ :: _, [], _, h => by simp [lexB] at h
 | [], _ :: _, _ :: _, _, _ => rfl
 | x :: r, y :: s, z :: t, h1, h2 => by
  have ih := lexB_trans r s t
  unfold lexB at h1 h2 ⊢
  by_cases a1 : x < y
  ·by_cases a2 : y < z
   ·rw [if_pos (UInt8.lt_trans a1 a2)]
   ·rw [if_neg a2] at h2
    by_cases a3 : z < y
    ·rw [if_pos a3] at h2; cases h2
    ·obtain rfl := u8_eq a2 a3; rw [if_pos a1]
  ·rw [if_neg a1] at h1
   by_cases a2 : y < x
   ·rw [if_pos a2] at h1; cases h1
   ·obtain rfl := u8_eq a1 a2
    rw [if_neg a2] at h1
    by_cases a3 : x < z
    ·rw [if_pos a3]
    ·rw [if_neg a3] at h2 ⊢
     by_cases a4 : z < x
     ·rw [if_pos a4] at h2; cases h2
     ·rw [if_neg a4] at h2 ⊢; exact ih h1 h2
theorem lexB_total : ∀ (a b : List UInt8), lexB a b = false → lexB b a = false → a = b
 | [], [], _, _ => rfl
 | [], _ :: _, h, _ => by simp [lexB] at h
 | _ :: _, [], _, h => by simp [lexB] at h
 | x :: r, y :: s, h1, h2 => by
  have ih := lexB_total r s
  unfold lexB at h1 h2
  by_cases a1 : x < y
  ·rw [if_pos a1] at h1; cases h1
  ·by_cases a2 : y < x
   ·rw [if_pos a2] at h2; cases h2
   ·obtain rfl := u8_eq a1 a2
    rw [if_neg a1, if_neg a1] at h1 h2
    rw [ih h1 h2]
theorem lexB_sto : STO lexB := ⟨lexB_irrefl, lexB_trans, lexB_total⟩
theorem ltVt_sto : STO ltVt := ⟨fun x => lexI_irrefl _, fun x y z => lexI_trans _ _ _, fun x y h1 h2 => vtKey_inj (lexI_total _ _ rfl h1 h2)⟩
abbrev SgV := VtR × List UInt8
def ltSv (a b : SgV) : Bool := if a.1 = b.1 then lexB a.2 b.2 else ltVt a.1 b.1
theorem ltSv_sto : STO ltSv where
 irrefl x := by unfold ltSv; rw [if_pos rfl]; exact lexB_irrefl _
 trans x y z h1 h2 := by
  unfold ltSv at *
  by_cases e1 : x.1 = y.1
  ·rw [if_pos e1] at h1
   by_cases e2 : y.1 = z.1
   ·rw [if_pos e2] at h2; rw [if_pos (e1.trans e2)]; exact lexB_trans _ _ _ h1 h2
   ·rw [if_neg e2] at h2; rw [if_neg (fun e => e2 (e1.symm.trans e)), e1]; exact h2
  ·rw [if_neg e1] at h1
   by_cases e2 : y.1 = z.1
   ·rw [if_neg (fun e => e1 (e.trans e2.symm)), ← e2]; exact h1
   ·rw [if_neg e2] at h2
    have h3 := ltVt_sto.trans _ _ _ h1 h2
    rw [if_neg (fun e => by rw [e, ltVt_sto.irrefl] at h3; cases h3)]; exact h3
 total x y h1 h2 := by
  unfold ltSv at *
  by_cases e1 : x.1 = y.1
  ·rw [if_pos e1] at h1; rw [if_pos e1.symm] at h2
   exact Prod.ext e1 (lexB_total _ _ h1 h2)
  ·rw [if_neg e1] at h1; rw [if_neg (fun e => e1 e.symm)] at h2
   exact absurd (ltVt_sto.total _ _ h1 h2) e1
def SgR.V (S : SgR) : SgV := (S.v, S.sig)
def ltSg (S T : SgR) : Bool := ltSv S.V T.V
theorem ltSg_v {S T : SgR} (h : S.v ≠ T.v) : ltSg S T = ltVt S.v T.v := by unfold ltSg ltSv SgR.V; rw [if_neg h]
theorem ltSg_s {S T : SgR} (h : S.v = T.v) : ltSg S T = decide (Lib.compareBytes S.sig T.sig < 0) := by
 unfold ltSg ltSv SgR.V; rw [if_pos h]
 cases hh : lexB S.sig T.sig with
 | true => exact (decide_eq_true ((cmp_lex _ _).1.symm ▸ hh)).symm
 | false => exact (decide_eq_false (fun e => by rw [(cmp_lex _ _).1, hh] at e; cases e)).symm
/-! bytes.Compare -/
theorem run_bytesOfB {w : World} {A : Option Addr} {n c : Nat} {l : List UInt8} (h : SlB w A n c l) : (Extern.Bytes.bytesOf (.slice A n c)).run Tryz.prog w = .ok (strV l) w := by
 have hl := h.len
 by_cases hn : n = 0
 ·subst hn
  obtain rfl : l = [] := List.length_eq_zero_iff.1 hl
  rcases A with _ | ad
  ·rfl
  ·rfl
 ·obtain ⟨b, o, rfl, hr, _⟩ := h.at (by omega)
  have hx := Lib.run_loadBytesX (P := Tryz.prog) w (l.map fun c => (c.toNat : Int)) ⟨b, o, none⟩ .empty (fun j x hj => by
   rw [List.getElem?_map] at hj
   cases hh : l[j]? with
   | none => rw [hh] at hj; cases hj
   | some u =>
    rw [hh] at hj
    obtain rfl := Option.some.inj hj
    rw [Addr.add_mid]
    exact hr j _ (by unfold bcs; rw [List.getElem?_map, hh]; rfl))
  rw [List.length_map, hl] at hx
  have e1 : Lib.bytesOf (l.map fun c => (c.toNat : Int)) = l := by
   unfold Lib.bytesOf
   rw [List.map_map]
   conv => rhs; rw [← List.map_id l]
   apply List.map_congr_left
   intro u _
   simp
  rw [e1] at hx
  have he : (⟨ByteArray.empty.data ++ l.toArray⟩ : ByteArray) = strV l := by
   apply ByteArray.ext
   show (#[] : Array UInt8) ++ l.toArray = l.toArray
   simp
  rw [he] at hx
  exact hx
theorem run_compareB {w : World} {A B : Option Addr} {n c m d : Nat} {p q : List UInt8} (h : SlB w A n c p) (k : SlB w B m d q) : (Extern.BytealgCompare.compare #[.slice A n c, .slice B m d]).run Tryz.prog w = .ok (.int .i64 (Lib.compareBytes p q)) w := by
 change Sem.run Tryz.prog (do pure (goInt (Extern.BytealgCompare.cmp (← Extern.Bytes.bytesOf (.slice A n c)) (← Extern.Bytes.bytesOf (.slice B m d))))) w = _
 simp only [Sem.run_bind, Sem.run_pure, run_bytesOfB h, run_bytesOfB k, Result.andThen]
 rw [Lib.cmp_eq]
 rfl
theorem bCompare_any (A : Option Addr) (n c : Nat) (p : List UInt8) (B : Option Addr) (m d : Nat) (q : List UInt8) (w : World) (h : SlB w A n c p) (k : SlB w B m d q) :
  Calls Tryz.prog 63 #[.slice A n c, .slice B m d] w fun e w' => e = .returned (.int .i64 (Lib.compareBytes p q)) ∧ w = w' := by
 have hr := run_compareB h k
 clear h k
 go_enter Tryz.func63, Tryz.ntmps63
 go_wp2
 rw [run_callFunc_extern Tryz.func93 (by kernel_rfl) (by kernel_rfl) (by kernel_rfl) (e := Extern.BytealgCompare.compare) (by kernel_rfl), hr]
 simp only [Result.andThen]
 rw [Oper.upon_value]
 go_wp2
 go_ret
 exact ⟨rfl, rfl⟩
/-! the order of signed votes -/
theorem sg_vote {w : World} {g : Nat} {t : TypeId} {S : SgR} (h : Blk w g t (sgA S)) : w.rangeAt g 0 (vtL S.v) := rangeAt_take (k := 22) (rangeAt_of_blk h)
theorem sgLess_any (S T : SgR) (w : World) (hS : S.ok w) (hT : T.ok w) : Calls Tryz.prog 73 #[.agg (sgA S), .agg (sgA T)] w fun e w' => e = .returned (.bool (ltSg S T)) ∧ Ext w w' := by
 have hE := ((Ext.refl w).alloc' (.cells (sgA S) 48)).alloc' (.cells (sgA T) 48)
 have HB1 := Lib.hid ((Blk.new w 48 (sgA S)).alloc (.cells (sgA T) 48))
 have HB2 := Lib.hid (show Blk ((w.alloc (.cells (sgA S) 48)).alloc (.cells (sgA T) 48)) (w.heap.size + 1) 48 (sgA T) from Blk.newAt _ _ _ _ (by simp))
 have HE := Lib.hid hE
 have HS := Lib.hid (hS.ext hE)
 have HT := Lib.hid (hT.ext hE)
 obtain ⟨W0, hW0⟩ : ∃ W0, (w.alloc (.cells (sgA S) 48)).alloc (.cells (sgA T) 48) = W0 := ⟨_, rfl⟩
 rw [hW0] at HB1 HB2 HE HS HT
 have r1 := sg_vote HB1.out
 have r2 := sg_vote HB2.out
 have hq : ∀ W, (binOp .neq 46 (.agg (vtA S.v)) (.agg (vtA T.v))).run Tryz.prog W = .ok (.bool (!decide (S.v = T.v))) W := fun W => by
  rw [run_neq_struct, eqIn_Vt S.v T.v HS.out.v HT.out.v W]; rfl
 have hqi := fun W => eqIn_Vt S.v T.v HS.out.v HT.out.v W
 have HL := Lib.hid (fun (W : World) => vtLess_any S.v T.v W)
 clear hE hS hT
 by_cases hv : S.v = T.v
 ·have HV := Lib.hid (ltSg_s hv)
  rw [decide_eq_true hv] at hq hqi
  rw [Bool.not_true] at hq
  have c1 : W0.cell? ⟨w.heap.size, 22, none⟩ = some (.slice S.A S.n S.c) := HB1.out.cell 22
  have c2 : W0.cell? ⟨w.heap.size + 1, 22, none⟩ = some (.slice T.A T.n T.c) := HB2.out.cell 22
  clear hv
  go_enter Tryz.func73, Tryz.ntmps73
  go_wp2_with (first | (with_reducible refine wpList_loadVt rfl (.tmp 5) rfl w.heap.size 0 rfl S.v r1 ?_) | (with_reducible refine wpList_loadVt rfl (.tmp 7) rfl (w.heap.size + 1) 0 rfl T.v r2 ?_))
  refine (bCompare_any _ _ _ _ _ _ _ _ W0 HS.out.sig HT.out.sig).mono ?_
  rintro e w1 ⟨rfl, rfl⟩
  go_wp2_with fail
  go_ret
  exact ⟨by rw [HV.out]; rfl, HE.out⟩
 ·have HV := Lib.hid (ltSg_v hv)
  rw [decide_eq_false hv] at hq hqi
  rw [Bool.not_false] at hq
  clear hv
  go_enter Tryz.func73, Tryz.ntmps73
  go_wp2_with (first | (with_reducible refine wpList_loadVt rfl (.tmp 5) rfl w.heap.size 0 rfl S.v r1 ?_) | (with_reducible refine wpList_loadVt rfl (.tmp 7) rfl (w.heap.size + 1) 0 rfl T.v r2 ?_) | (with_reducible refine wpList_loadVt rfl (.tmp 10) rfl w.heap.size 0 rfl S.v r1 ?_) | (with_reducible refine wpList_loadVt rfl (.tmp 12) rfl (w.heap.size + 1) 0 rfl T.v r2 ?_))
  refine (HL.out W0).mono ?_
  rintro e w1 ⟨rfl, he1⟩
  have HX1 := Lib.hid (HE.out.trans he1)
  clear he1
  go_wp2_with fail
  go_ret
  exact ⟨by rw [HV.out]; rfl, HX1.out⟩
end Go.Proofs.YtbfepgjeecndiaaGreat
