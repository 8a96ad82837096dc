import Derived.Test.YtengpfpeeihaoaaMrk4
namespace Go.Proofs.Ytengpfpeeihaoaa
open Go.RowKit
set_option linter.unusedVariables false
set_option linter.unusedSimpArgs false
attribute [local go_sem ↓] Go.wp_at_zero Go.wp_at_succ

theorem last_take (ns : List UInt64) (d : Nat) (h : ns.length = d + 1) : ns.dropLast = ns.take d ∧ ns.getLastD 0 = nthN ns d := by
  constructor
  · rw [List.dropLast_eq_take, h]; rfl
  · unfold nthN
    rcases List.eq_nil_or_concat ns with rfl | ⟨l, x, rfl⟩
    · simp at h
    · simp only [List.concat_eq_append, List.length_append, List.length_cons, List.length_nil, Nat.zero_add, Nat.add_right_cancel_iff] at h
      subst h
      rw [List.concat_eq_append, List.getLastD_concat]; simp
set_option maxRecDepth 100000 in
set_option maxHeartbeats 1000000 in
theorem computed_any (N : Nat) : ∀ (leaf : UInt64) (n i m : Nat) (A : Option Addr) (c : Nat) (ns : List UInt64) (w : World), n ≤ N → n ≤ 1000000 → i < n → m = depU i n → SlN w A m c ns →
    Calls Try.prog 102 #[.agg (nmc leaf), .int .i64 (i : Int), .int .i64 (n : Int), .slice A m c] w fun e w' => e = .returned (.agg (nmc (compU leaf i n ns))) ∧ Ext w w' := by
  induction N with
  | zero => intro leaf n i m A c ns w hn _ hi; omega
  | succ N ih =>
    intro leaf n i m A c ns w hn hmx hi hm h
    by_cases h0 : n ≤ N
    · exact ih leaf n i m A c ns w h0 hmx hi hm h
    have HM := Lib.hid hm
    clear hm
    by_cases h1 : n = 1
    · subst h1
      have HC := Lib.hid (compU_short leaf i 1 ns (by omega))
      have hrl := rangeN ((Blk.new w 61 (nmc leaf)).alloc (.cells zcs.toArray 61))
      go_enter Try.func102, Try.ntmps102
      go_wp2_with (refine wpList_loadN rfl (.tmp 4) rfl w.heap.size 0 rfl leaf hrl ?_)
      refine (single_any _ _).mono ?_
      rintro e w3 ⟨rfl, he3⟩
      have hb0 : Blk w3 (w.heap.size + 1) 61 zcs.toArray := (Blk.newAt _ _ _ _ (by simp)).ext he3
      go_wp2_with (with_reducible refine wpList_storeN rfl _ _ rfl (w.heap.size + 1) 0 _ rfl rfl (thereZ hb0) ?_)
      refine bodyPost_ret (v := .agg (nmc (leafU leaf))) (retN rfl _ _ (w.heap.size + 1) _ rfl (blkN hb0 _)) rfl ⟨by rw [HC.out], Below.setCells' ((((Ext.refl w).alloc' _).alloc' _).trans he3) (by omega) _ _⟩
    have hn2 : 2 ≤ n := by omega
    have hsb := spl_bd n hn2
    have n1 : ((n : Int) == 1) = false := by simp; omega
    obtain ⟨k, hk⟩ : ∃ k, k = spl n := ⟨_, rfl⟩
    have Hk := Lib.hid hk
    rw [← hk] at hsb
    have IH := Lib.hid ih
    clear ih
    obtain ⟨d, rfl⟩ : ∃ d, m = d + 1 := by
      have := HM.out
      by_cases hlt : i < spl n
      · rw [depU_low i n hn2 hlt] at this; exact ⟨_, this⟩
      · rw [depU_high i n hn2 hlt] at this; exact ⟨_, this⟩
    have hdb : d + 1 ≤ n := by have := HM.out; have := depU_le i n; omega
    obtain ⟨b, o, rfl, hra, hbl⟩ := h.at (by omega)
    have hlen := h.len
    have hle := h.le
    have hcap := h.cap
    have hlt2 := last_take ns d hlen
    have hE1 : Ext w ((w.alloc (.cells (nmc leaf) 61)).alloc (.cells zcs.toArray 61)).drew := (((Ext.refl w).alloc' _).alloc' _).drew'
    have hX : Ext ((w.alloc (.cells (nmc leaf) 61)).alloc (.cells zcs.toArray 61)).drew ((w.alloc (.cells (nmc leaf) 61)).alloc (.cells zcs.toArray 61)).drew := Ext.refl _
    have hz : Blk ((w.alloc (.cells (nmc leaf) 61)).alloc (.cells zcs.toArray 61)).drew (w.heap.size + 1) 61 zcs.toArray := (Blk.newAt _ _ _ _ (by simp)).drew
    have hlf : Blk ((w.alloc (.cells (nmc leaf) 61)).alloc (.cells zcs.toArray 61)).drew w.heap.size 61 (nmc leaf) := ((Blk.new w _ _).alloc _).drew
    have hnm := rangeAt_keep (name_nth hra (k := d) (by omega)) (hE1.block b hbl)
    have hbl1 := Nat.lt_of_lt_of_le hbl hE1.size
    have SS : ∀ w', Below (w.heap.size + 1) ((w.alloc (.cells (nmc leaf) 61)).alloc (.cells zcs.toArray 61)).drew w' → (∀ i, i < 8 → w'.cell? ⟨w.heap.size, i, none⟩ = some (.int .u8 (nb8 leaf i))) ∧ (∀ i, i < 8 → w'.cell? ⟨b, o + d * 8 + i, none⟩ = some (.int .u8 (nb8 (nthN ns d) i))) ∧ w'.cell? ⟨b, o + d * 8, none⟩ = some (.int .u8 (nb8 (nthN ns d) 0)) := fun w' hx =>
      ⟨cells8 (hlf.below hx (by omega)), cells8At (rangeAt_keep hnm (hx.block b (by omega))), cells8At (rangeAt_keep hnm (hx.block b (by omega))) 0 (by omega)⟩
    have HB : w.heap.size + 1 ≤ ((w.alloc (.cells (nmc leaf) 61)).alloc (.cells zcs.toArray 61)).drew.heap.size := by simp
    have HSS := Lib.hid SS
    clear SS hnm
    have hs1 := (h.upto (k := d) (by omega)).ext hE1
    have b1 : (d : Int) < (d : Int) + 1 := by omega
    have b2 : d ≤ c := by omega
    by_cases hlt : i < k
    · have HC := Lib.hid (compU_low leaf i n ns hn2 (by rw [← hk]; exact hlt))
      rw [← hk, hlt2.1, hlt2.2] at HC
      have hdk : d = depU i k := by have := HM.out; rw [depU_low i n hn2 (by rw [← hk]; exact hlt), ← hk] at this; omega
      have Hdk := Lib.hid hdk
      clear hk hlt2 hdk
      have hlt' : (i : Int) < (k : Int) := by omega
      go_enter Try.func102, Try.ntmps102
      go_wp2_with (go_at_call 89; refine (split_any n _ hn2 (by omega)).mono ?_; rintro e w1 ⟨rfl, rfl⟩; rw [← Hk.out])
      go_region_held3 (fun w' => (∀ i, i < 8 → w'.cell? ⟨w.heap.size, i, none⟩ = some (.int .u8 (nb8 leaf i))) ∧ (∀ i, i < 8 → w'.cell? ⟨b, o + d * 8 + i, none⟩ = some (.int .u8 (nb8 (nthN ns d) i))) ∧ w'.cell? ⟨b, o + d * 8, none⟩ = some (.int .u8 (nb8 (nthN ns d) 0))) (first | with_reducible exact HSS.out _ (Below.setCells' (Below.mono hX HB) (Nat.le_refl _) _ _) | with_reducible exact HSS.out _ (Below.mono hX HB)) (first | (go_at_call 102; refine (IH.out leaf k i d _ c (ns.take d) _ (by omega) (by omega) hlt Hdk.out (hs1.ext hX)).mono ?_; rintro e w1 ⟨rfl, he1⟩; have hX := Ext.trans hX he1) | (go_at_call 90; refine (pair_any 18 _ _ _).mono ?_; rintro e w2 ⟨rfl, he2⟩; have hX := Ext.trans hX he2; have hst := run_storeN (hz.ext hX) (pairU 18 (compU leaf i k (ns.take d)) (nthN ns d))))
      go_wp2_with fail
      refine bodyPost_ret (v := .agg (nmc (pairU 18 (compU leaf i k (ns.take d)) (nthN ns d)))) (retN rfl _ _ (w.heap.size + 1) _ rfl (blkN (hz.ext hX) _)) rfl ⟨by rw [HC.out], Below.setCells' (hE1.trans hX) (by omega) _ _⟩
    · have HC := Lib.hid (compU_high leaf i n ns hn2 (by rw [← hk]; exact hlt))
      rw [← hk, hlt2.1, hlt2.2] at HC
      have hdk : d = depU (i - k) (n - k) := by have := HM.out; rw [depU_high i n hn2 (by rw [← hk]; exact hlt), ← hk] at this; omega
      have Hdk := Lib.hid hdk
      clear hk hlt2 hdk
      have hlt' : ¬ (i : Int) < (k : Int) := by omega
      have hsub : IntKind.i64.wrap ((i : Int) - (k : Int)) = ((i - k : Nat) : Int) := by rw [IntKind.wrap_i64]; omega
      have hsub2 : IntKind.i64.wrap ((n : Int) - (k : Int)) = ((n - k : Nat) : Int) := by rw [IntKind.wrap_i64]; omega
      go_enter Try.func102, Try.ntmps102
      go_wp2_with (go_at_call 89; refine (split_any n _ hn2 (by omega)).mono ?_; rintro e w1 ⟨rfl, rfl⟩; rw [← Hk.out])
      go_region_held3 (fun w' => (∀ i, i < 8 → w'.cell? ⟨w.heap.size, i, none⟩ = some (.int .u8 (nb8 leaf i))) ∧ (∀ i, i < 8 → w'.cell? ⟨b, o + d * 8 + i, none⟩ = some (.int .u8 (nb8 (nthN ns d) i))) ∧ w'.cell? ⟨b, o + d * 8, none⟩ = some (.int .u8 (nb8 (nthN ns d) 0))) (first | with_reducible exact HSS.out _ (Below.setCells' (Below.mono hX HB) (Nat.le_refl _) _ _) | with_reducible exact HSS.out _ (Below.mono hX HB)) (first | (go_at_call 102; refine (IH.out leaf (n - k) (i - k) d _ c (ns.take d) _ (by omega) (by omega) (by omega) Hdk.out (hs1.ext hX)).mono ?_; rintro e w1 ⟨rfl, he1⟩; have hX := Ext.trans hX he1) | (go_at_call 90; refine (pair_any 18 _ _ _).mono ?_; rintro e w2 ⟨rfl, he2⟩; have hX := Ext.trans hX he2; have hst := run_storeN (hz.ext hX) (pairU 18 (nthN ns d) (compU leaf (i - k) (n - k) (ns.take d)))))
      go_wp2_with fail
      refine bodyPost_ret (v := .agg (nmc (pairU 18 (nthN ns d) (compU leaf (i - k) (n - k) (ns.take d))))) (retN rfl _ _ (w.heap.size + 1) _ rfl (blkN (hz.ext hX) _)) rfl ⟨by rw [HC.out], Below.setCells' (hE1.trans hX) (by omega) _ _⟩
set_option maxHeartbeats 1000000 in
theorem follow_yes (leaf : UInt64) (n i m : Nat) (A : Option Addr) (c : Nat) (ns : List UInt64) (w : World) (hmx : n ≤ 1000000) (hi : i < n) (hm : m = depU i n) (h : SlN w A m c ns) :
    Calls Try.prog 81 #[.agg (nmc leaf), .int .i64 (i : Int), .int .i64 (n : Int), .slice A m c] w fun e w' => e = .returned (.tuple #[.agg (nmc (compU leaf i n ns)), .bool true]) ∧ Ext w w' := by
  have hrl := rangeN ((Blk.new w 61 (nmc leaf)).alloc (.cells zcs.toArray 61))
  have hs := h.ext (((Ext.refl w).alloc' (.cells (nmc leaf) 61)).alloc' (.cells zcs.toArray 61))
  have HM := Lib.hid hm
  clear hm
  have hq : ((m : Int) != (m : Int)) = false := by simp
  go_enter Try.func81, Try.ntmps81
  go_wp2_with (first | (go_at_call 101; refine (depth_in i n _ hi hmx).mono ?_; rintro e w1 ⟨rfl, rfl⟩; rw [← HM.out]) | (refine wpList_loadN rfl (.tmp 4) rfl w.heap.size 0 rfl leaf hrl ?_))
  refine (computed_any n leaf n i m A c ns _ (Nat.le_refl _) hmx hi HM.out hs).mono ?_
  rintro e w3 ⟨rfl, he3⟩
  have hb0 : Blk w3 (w.heap.size + 1) 61 zcs.toArray := (Blk.newAt _ _ _ _ (by simp)).ext he3
  go_wp2_with (with_reducible refine wpList_storeN rfl _ _ rfl (w.heap.size + 1) 0 _ rfl rfl (thereZ hb0) ?_)
  refine bodyPost_ret (v := .tuple #[.agg (nmc (compU leaf i n ns)), .bool true]) (retNV rfl _ _ (w.heap.size + 1) _ _ rfl rfl (blkN hb0 _)) rfl ⟨rfl, Below.setCells' ((((Ext.refl w).alloc' _).alloc' _).trans he3) (by omega) _ _⟩
end Go.Proofs.Ytengpfpeeihaoaa
