/- ready, NewKey, Public and Sign (the program's), of a key object and of a seed. -/
import Derived.Test.YtengpfpeeihaoaaKy4
import Derived.Test.YtengpfpeeihaoaaA
import Derived.Test.YtengpfpeeihaoaaSig6
namespace Go.Proofs.Ytengpfpeeihaoaa
open Go.RowKit
set_option linter.unusedVariables false
set_option linter.unusedSimpArgs false
theorem ready_no (w : World) : Calls Try.prog 64 #[.pointer none] w fun e w' => e = .returned (.bool false) ∧ w = w' := by
  go_enter Try.func64, Try.ntmps64
  go_wp2_with fail
  go_ret
  exact ⟨rfl, rfl⟩
theorem ready_yes (seed : UInt64) (B M : Nat) (lv : Int) (w : World) (hK : KeyAt w B M seed lv) : Calls Try.prog 64 #[.pointer (some ⟨B, 0, none⟩)] w fun e w' => e = .returned (.bool true) ∧ w = w' := by
  have hc := hK.trees
  have hnm := fun (w : World) => run_neq_map_nil (P := Try.prog) w 97 116 84 (some M) Try.underlying97
  clear hK
  go_enter Try.func64, Try.ntmps64
  go_wp2_with fail
  go_ret
  exact ⟨rfl, rfl⟩
theorem cap1 (w : World) : Calls Try.prog 13 #[.int .i64 1] w fun e w' => e = .returned (.int .i64 32) ∧ w = w' := capacity_any 1 w
theorem cap2 (w : World) : Calls Try.prog 13 #[.int .i64 2] w fun e w' => e = .returned (.int .i64 1024) ∧ w = w' := capacity_any 2 w
theorem cap0 (lv : Int) (h1 : lv ≠ 1) (h2 : lv ≠ 2) (w : World) : Calls Try.prog 13 #[.int .i64 lv] w fun e w' => e = .returned (.int .i64 0) ∧ w = w' := by
  have h := capacity_any lv w
  rw [show capZ lv = 0 from by unfold capZ; rw [if_neg h2, if_neg h1]] at h
  exact h
theorem newKey_no (seed : UInt64) (lv : Int) (h1 : lv ≠ 1) (h2 : lv ≠ 2) (w : World) : Calls Try.prog 42 #[.agg (nmc seed), .int .i64 lv] w fun e w' => e = .returned (.pointer none) ∧ Ext w w' := by
  go_enter Try.func42, Try.ntmps42
  go_wp2_with fail
  refine (cap0 lv h1 h2 _).mono ?_
  rintro e w1 ⟨rfl, rfl⟩
  go_wp2_with fail
  go_ret
  exact ⟨rfl, (Ext.refl w).alloc' _⟩
@[go_sem] theorem fold_nmc10 (n : UInt64) : Array.foldl (fun (cs : Array Value) (x : Value × Nat) => cs.setIfInBounds x.snd x.fst) #[.int .u8 0, .int .u8 0, .int .u8 0, .int .u8 0, .int .u8 0, .int .u8 0, .int .u8 0, .int .u8 0, .int .i64 0, .map none] (nmc n).zipIdx 0 8 = #[.int .u8 (nb8 n 0), .int .u8 (nb8 n 1), .int .u8 (nb8 n 2), .int .u8 (nb8 n 3), .int .u8 (nb8 n 4), .int .u8 (nb8 n 5), .int .u8 (nb8 n 6), .int .u8 (nb8 n 7), .int .i64 0, .map none] := by
  rw [← nmc_nb8 n]
  kernel_rfl
theorem keyAt_new (seed : UInt64) (lv : Int) (w : World) (M : Nat) {g : Nat} (hM : w.heap.size = M) (hg : M + 1 = g) : KeyAt ((w.alloc (.map #[] 0)).alloc (.cells (keyP seed lv M) 99)) g M seed lv := by
  subst hM; subst hg
  refine ⟨Blk.newAt _ _ _ _ (by simp), #[], 0, ?_, fun x hx => by simp at hx⟩
  rw [Below.heap_alloc _ _ _ (by simp)]
  exact heap_alloc_new w _
set_option maxRecDepth 100000 in
set_option maxHeartbeats 1000000 in
theorem newKey_yes (seed : UInt64) (lv : Int) (h : lv = 1 ∨ lv = 2) (w : World) : Calls Try.prog 42 #[.agg (nmc seed), .int .i64 lv] w fun e w' => ∃ B M, e = .returned (.pointer (some ⟨B, 0, none⟩)) ∧ KeyAt w' B M seed lv ∧ w.heap.size ≤ B ∧ w.heap.size ≤ M ∧ Ext w w' := by
  have hrs := rangeN (Blk.new w 61 (nmc seed))
  have hmm := @run_makeMap Try.prog
  rcases h with rfl | rfl
  · go_enter Try.func42, Try.ntmps42
    go_wp2_with (first | (go_at_call 13; (with_reducible refine (cap1 _).mono ?_); rintro e w1 ⟨rfl, rfl⟩) | (with_reducible refine wpList_loadN rfl (.tmp 2) rfl w.heap.size 0 rfl seed hrs ?_))
    go_ret
    exact ⟨_, _, rfl, keyAt_new seed 1 _ _ (by simp) (by simp), by omega, by omega, (((Ext.refl w).alloc' _).alloc' _).alloc' _⟩
  · go_enter Try.func42, Try.ntmps42
    go_wp2_with (first | (go_at_call 13; (with_reducible refine (cap2 _).mono ?_); rintro e w1 ⟨rfl, rfl⟩) | (with_reducible refine wpList_loadN rfl (.tmp 2) rfl w.heap.size 0 rfl seed hrs ?_))
    go_ret
    exact ⟨_, _, rfl, keyAt_new seed 2 _ _ (by simp) (by simp), by omega, by omega, (((Ext.refl w).alloc' _).alloc' _).alloc' _⟩
theorem GM.mono {base base' M : Nat} {w w' : World} (h : GM base M w w') (hb : base' ≤ base) : GM base' M w w' := ⟨h.os, h.tape, h.output, h.size, fun k hk hm => h.block k (by omega) hm⟩
theorem own_map {w w' : World} {B M : Nat} {seed : UInt64} {lv : Int} {base : Nat} {e : TypeId} {size : Nat} {v : Value} {n : Nat} {xs : List Value} (hO : w.ownsRow base e size v n xs) (hK : KeyAt w B M seed lv) (hG : w.grownBy w' (some M)) : w'.ownsRow base e size v n xs := by
  refine ⟨hO.1, ?_⟩
  rcases hO.2 with h2 | ⟨g, cap, cur, hv, hg, hh, r⟩
  · exact .inl h2
  · refine .inr ⟨g, cap, cur, hv, hg, ?_, r⟩
    rw [hG.block g (Array.getElem?_eq_some_iff.1 hh).1 (fun e1 => by
      obtain ⟨es, ck, hm, _⟩ := hK.map
      injection e1 with e1; subst e1; rw [hm] at hh; cases hh), hh]
theorem KeyAt.mlt {w : World} {B M : Nat} {seed : UInt64} {lv : Int} (h : KeyAt w B M seed lv) : M < w.heap.size := by
  obtain ⟨es, ck, hm, _⟩ := h.map; exact (Array.getElem?_eq_some_iff.1 hm).1
theorem grown_setCells (g : Nat) : ∀ (vs : List Value) (o : Nat) (w : World), w.grownBy (w.setCells g o vs) (some g) := by
  intro vs
  induction vs with
  | nil => intro o w; exact grown_refl _ _
  | cons v r ih =>
    intro o w
    have h1 := grown_set w g o v
    have h2 := ih (o + 1) (w.setCell ⟨g, o, none⟩ v)
    exact ⟨h2.os.trans h1.os, h2.tape.trans h1.tape, h2.output.trans h1.output, Nat.le_trans h1.size h2.size, fun k hk hne => (h2.block k (Nat.lt_of_lt_of_le hk h1.size) hne).trans (h1.block k hk hne)⟩
/-- what is written into a variable of a name's type does not touch a key -/
theorem KeyAt.cell {w w' : World} {B M : Nat} {seed : UInt64} {lv : Int} {g : Nat} {t : TypeId} {cs : Array Value} (h : KeyAt w B M seed lv) (hg : w.grownBy w' (some g)) (hb : Blk w g t cs) (hs : cs.size = 8) : KeyAt w' B M seed lv := by
  obtain ⟨es, clock, hm, ht⟩ := h.map
  have key : ∀ (q : Nat) (o : Obj), w.heap[q]? = some o → (∀ cs t, cs.size = 8 → o ≠ .cells cs t (0, 0)) → w'.heap[q]? = some o := fun q o ho hne => by
    rw [hg.block q (Array.getElem?_eq_some_iff.1 ho).1 (fun e => by
      injection e with e; subst e
      unfold Blk at hb
      rw [ho] at hb
      injection hb with hb
      exact hne cs t hs hb), ho]
  refine ⟨key B _ h.blk (fun cs t hs e => ?_), es, clock, key M _ hm (fun cs t _ e => by cases e), fun x hx => ?_⟩
  · injection e with e1; rw [← e1] at hs; simp [keyP] at hs
  · obtain ⟨a, b, q, h1, h2, h3, h4, h5⟩ := ht x hx
    refine ⟨a, b, q, h1, h2, h3, h4, key q _ h5 (fun cs t hs e => ?_)⟩
    injection e with e1; rw [← e1] at hs; simp [ncs_length, leavesU_length] at hs
/-- a key object's answer -/
def KeyOut (v : Value) (w : World) (B M : Nat) (seed : UInt64) (lv : Int) (e : Ending) (w' : World) : Prop := e = .returned v ∧ KeyAt w' B M seed lv ∧ GM w.heap.size M w w'
theorem kPublic_no (w : World) : Calls Try.prog 43 #[.pointer none] w fun e w' => e = .returned (.agg (nmc 0)) ∧ Ext w w' := by
  go_enter Try.func43, Try.ntmps43
  go_wp2_with fail
  refine (ready_no _).mono ?_
  rintro e w1 ⟨rfl, rfl⟩
  go_wp2_with fail
  refine bodyPost_ret (v := .agg (nmc 0)) (retN rfl _ _ w.heap.size _ rfl (by rw [nmc_zero]; exact Blk.new _ _ _)) rfl ⟨rfl, (Ext.refl w).alloc' _⟩
set_option maxRecDepth 100000 in
set_option maxHeartbeats 1000000 in
theorem kPublic_yes (seed : UInt64) (B M : Nat) (lv : Int) (hl : (Lit.int .i64 lv).wf = true) (w : World) (hK : KeyAt w B M seed lv) : Calls Try.prog 43 #[.pointer (some ⟨B, 0, none⟩)] w (KeyOut (.agg (nmc (pubU seed lv))) w B M seed lv) := by
  have hMw := hK.mlt
  have hK0 := hK.ext ((Ext.refl w).alloc' (.cells zcs.toArray 61))
  have HK := Lib.hid hK0
  have hlv := hK0.levels
  have HZ := Lib.hid (Blk.new w 61 zcs.toArray)
  have HG0 := Lib.hid (GM.ext (base := w.heap.size) (M := M) ((Ext.refl w).alloc' (.cells zcs.toArray 61)) (Nat.le_refl _))
  clear hK hK0
  go_enter Try.func43, Try.ntmps43
  go_wp2_with fail
  refine (ready_yes seed B M lv _ HK.out).mono ?_
  rintro e w1 ⟨rfl, rfl⟩
  go_wp2_with fail
  refine (tree_any seed B M lv lv 0 hl (by omega) (by omega) _ HK.out).mono ?_
  rintro e w1 ⟨g1, rfl, hT1, hK1, hG1⟩
  have HZ1 := Lib.hid (HZ.out.grown hG1 (fun e => by injection e; omega))
  have HG1 := Lib.hid (HG0.out.trans (GM.map hG1 (by simp)))
  have HK1 := Lib.hid hK1
  clear hK1 hG1
  go_wp2_with fail
  refine (root_any 32 32 _ _ _ _ (by omega) (by omega) hT1.sl).mono ?_
  rintro e w2 ⟨rfl, he2⟩
  have hb2 := HZ1.out.ext he2
  have hst := run_storeN hb2 (rootU (leavesU seed lv 0))
  have HK2 := Lib.hid (HK1.out.ext he2)
  have HG2 := Lib.hid (HG1.out.trans (GM.ext he2 HG1.out.size))
  clear he2 hT1
  go_wp2_with fail
  have hgs := grown_setCells w.heap.size (nmc (rootU (leavesU seed lv 0))).toList 0 w2
  refine bodyPost_ret (v := .agg (nmc (rootU (leavesU seed lv 0)))) (retN rfl _ _ w.heap.size _ rfl (blkN hb2 _)) rfl ⟨rfl, HK2.out.cell hgs hb2 rfl, HG2.out.trans (GM.row hgs (fun r hr => by injection hr; omega) HG2.out.size)⟩
end Go.Proofs.Ytengpfpeeihaoaa
