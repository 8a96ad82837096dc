import Derived.Test.YtengpfpeeihaoaaMrk5
namespace Go.Proofs.Ytengpfpeeihaoaa
open Go.RowKit
set_option linter.unusedVariables false
set_option linter.unusedSimpArgs false
attribute [local go_sem ↓] Go.wp_at_zero Go.wp_at_succ

theorem run_storeNewN (w : World) (g : Nat) (hg : w.heap.size = g) (r : UInt64) : (storeCells ⟨g, 0, none⟩ (nmc r).toList).run Try.prog (w.alloc (.cells zcs.toArray 61)) = .ok () (w.alloc (.cells (nmc r) 61)) := by
  subst hg
  rw [run_storeN (Blk.new w _ _) r, setCells_whole _ _ _ _ (by rw [nmc_size]; rfl)]
theorem run_storeNewD (w : World) (g : Nat) (hg : w.heap.size = g) (r : UInt64) : (storeCells ⟨g, 0, none⟩ (nmc r).toList).run Try.prog (w.alloc (.cells zcs.toArray 61)).drew = .ok () (w.alloc (.cells (nmc r) 61)).drew := run_storeNewN w.drew g hg r
theorem near2 {w4 w' : World} {g : Nat} (h : Ext w4 w') : ∀ b, b ≠ g → b < w4.heap.size → w'.heap[b]? = w4.heap[b]? := fun b _ hb => h.block b hb
theorem heap_setCells_other (w : World) (g : Nat) (vs : List Value) : ∀ (o b : Nat), b ≠ g → (w.setCells g o vs).heap[b]? = w.heap[b]? := by
  induction vs generalizing w with
  | nil => intro o b _; rfl
  | cons v r ih => intro o b hb; rw [World.setCells, ih _ (o + 1) b hb, Below.heap_setCell _ _ _ _ hb]
theorem far2 {w4 w' : World} {g o : Nat} {vs : List Value} (h : Ext w4 w') : ∀ b, b ≠ g → b < w4.heap.size → (w'.setCells g o vs).heap[b]? = w4.heap[b]? := fun b hg hb => (heap_setCells_other w' g vs o b hg).trans (h.block b hb)
set_option maxRecDepth 100000 in
set_option maxHeartbeats 1000000 in
theorem refFollow_any (N : Nat) : ∀ (leaf : UInt64) (n i m : Nat) (A : Option Addr) (c : Nat) (ns : List UInt64) (w : World), n ≤ N → n ≤ 1000000 → i < n → m = depU i n → SlN w A m c ns →
    Calls Try.prog 86 #[.agg (nmc leaf), .int .i64 (i : Int), .int .i64 (n : Int), .slice A m c] w fun e w' => e = .returned (.agg (nmc (compU leaf i n ns))) ∧ Ext w w' := by
  induction N with
  | zero => intro leaf n i m A c ns w hn _ hi; omega
  | succ N ih =>
    intro leaf n i m A c ns w hn hmx hi hm h
    by_cases h0 : n ≤ N
    · exact ih leaf n i m A c ns w h0 hmx hi hm h
    have HM := Lib.hid hm
    clear hm
    by_cases h1 : n = 1
    · subst h1
      have HC := Lib.hid (compU_short leaf i 1 ns (by omega))
      go_enter Try.func86, Try.ntmps86
      go_wp2_with fail
      refine (refTagged_any 17 _ _ _ (nmb leaf) _ ?h1 (by omega)).mono ?_
      case h1 => exact SlB.blkN ((Blk.new w _ (nmc leaf)).alloc _)
      rintro e w3 ⟨rfl, he3⟩
      have hb0 : Blk w3 (w.heap.size + 1) 61 zcs.toArray := (Blk.newAt _ _ _ _ (by simp)).ext he3
      go_wp2_with (with_reducible refine wpList_storeN rfl _ _ rfl (w.heap.size + 1) 0 _ rfl rfl (thereZ hb0) ?_)
      refine bodyPost_ret (v := .agg (nmc (leafU leaf))) (retN rfl _ _ (w.heap.size + 1) _ rfl (blkN hb0 _)) rfl ⟨by rw [HC.out], Below.setCells' ((((Ext.refl w).alloc' _).alloc' _).trans he3) (by omega) _ _⟩
    have hn2 : 2 ≤ n := by omega
    have hsb := spl_bd n hn2
    have n1 : ((n : Int) == 1) = false := by simp; omega
    obtain ⟨k, hk⟩ : ∃ k, k = spl n := ⟨_, rfl⟩
    have Hk := Lib.hid hk
    rw [← hk] at hsb
    have IH := Lib.hid ih
    clear ih
    obtain ⟨d, rfl⟩ : ∃ d, m = d + 1 := by
      have := HM.out
      by_cases hlt : i < spl n
      · rw [depU_low i n hn2 hlt] at this; exact ⟨_, this⟩
      · rw [depU_high i n hn2 hlt] at this; exact ⟨_, this⟩
    have hdb : d + 1 ≤ n := by have := HM.out; have := depU_le i n; omega
    obtain ⟨b, o, rfl, hra, hbl⟩ := h.at (by omega)
    have hlen := h.len
    have hle := h.le
    have hcap := h.cap
    have hlt2 := last_take ns d hlen
    have hnm := name_nth hra (k := d) (by omega)
    have SS : ∀ w', Ext w w' → (∀ i, i < 8 → w'.cell? ⟨b, o + d * 8 + i, none⟩ = some (.int .u8 (nb8 (nthN ns d) i))) ∧ w'.cell? ⟨b, o + d * 8, none⟩ = some (.int .u8 (nb8 (nthN ns d) 0)) := fun w' hx =>
      ⟨cells8At (rangeAt_keep hnm (hx.block b hbl)), cells8At (rangeAt_keep hnm (hx.block b hbl)) 0 (by omega)⟩
    have HSS := Lib.hid SS
    clear SS hnm
    have b1 : (d : Int) < (d : Int) + 1 := by omega
    have b2 : d ≤ c := by omega
    have wd : IntKind.i64.wrap ((d : Int) + 1 - 1) = (d : Int) := by rw [IntKind.wrap_i64]; omega
    have wd2 : IntKind.i64.wrap (d : Int) = (d : Int) := by rw [IntKind.wrap_i64]; omega
    go_enter Try.func86, Try.ntmps86
    go_wp2_with fail
    have hX0 : Ext w ((w.alloc (.cells (nmc leaf) 61)).alloc (.cells zcs.toArray 61)).drew := (((Ext.refl w).alloc' _).alloc' _).drew'
    have hst1 := run_storeNewD ((w.alloc (.cells (nmc leaf) 61)).alloc (.cells zcs.toArray 61)) (w.heap.size + 1 + 1) (by simp) (nthN ns d)
    have hXa : Ext w (((w.alloc (.cells (nmc leaf) 61)).alloc (.cells zcs.toArray 61)).alloc (.cells zcs.toArray 61)).drew := ((((Ext.refl w).alloc' _).alloc' _).alloc' _).drew'
    have hXb : Ext w (((w.alloc (.cells (nmc leaf) 61)).alloc (.cells zcs.toArray 61)).alloc (.cells (nmc (nthN ns d)) 61)).drew := ((((Ext.refl w).alloc' _).alloc' _).alloc' _).drew'
    go_region_held3 (fun w' => (∀ i, i < 8 → w'.cell? ⟨b, o + d * 8 + i, none⟩ = some (.int .u8 (nb8 (nthN ns d) i))) ∧ w'.cell? ⟨b, o + d * 8, none⟩ = some (.int .u8 (nb8 (nthN ns d) 0))) (first | (exact HSS.out _ hX0; done) | (exact HSS.out _ hXa; done) | (exact HSS.out _ hXb; done)) (first | (go_at_call 72; refine (refSplit_any n _ hn2 (by omega)).mono ?_; rintro e w1 ⟨rfl, rfl⟩; rw [← Hk.out]))
    all_goals
      rw [← Hk.out]
      have hE4 := hXb
      have hlf : Blk (((w.alloc (.cells (nmc leaf) 61)).alloc (.cells zcs.toArray 61)).alloc (.cells (nmc (nthN ns d)) 61)).drew w.heap.size 61 (nmc leaf) := (((Blk.new w _ _).alloc _).alloc _).drew
      have hz : Blk (((w.alloc (.cells (nmc leaf) 61)).alloc (.cells zcs.toArray 61)).alloc (.cells (nmc (nthN ns d)) 61)).drew (w.heap.size + 1) 61 zcs.toArray := ((Blk.newAt _ _ _ _ (by simp)).alloc _).drew
      have hup : Blk (((w.alloc (.cells (nmc leaf) 61)).alloc (.cells zcs.toArray 61)).alloc (.cells (nmc (nthN ns d)) 61)).drew (w.heap.size + 1 + 1) 61 (nmc (nthN ns d)) := (Blk.newAt _ _ _ _ (by simp)).drew
      have hs1 := (h.upto (k := d) (by omega)).ext hE4
      clear hst1 hXa hXb hX0 HSS
      generalize (((w.alloc (.cells (nmc leaf) 61)).alloc (.cells zcs.toArray 61)).alloc (.cells (nmc (nthN ns d)) 61)).drew = w4 at *
      have hX : Ext w4 w4.drew := (Ext.refl w4).drew'
      have SS2 : ∀ w' : World, (∀ b, b ≠ w.heap.size + 1 → b < w4.heap.size → w'.heap[b]? = w4.heap[b]?) → (∀ i, i < 8 → w'.cell? ⟨w.heap.size, i, none⟩ = some (.int .u8 (nb8 leaf i))) ∧ (∀ i, i < 8 → w'.cell? ⟨w.heap.size + 1 + 1, i, none⟩ = some (.int .u8 (nb8 (nthN ns d) i))) := fun w' hx =>
        ⟨cells8 (w := w') (show Blk w' _ _ _ from (hx _ (by omega) hlf.lt).trans hlf), cells8 (w := w') (show Blk w' _ _ _ from (hx _ (by omega) hup.lt).trans hup)⟩
      have HS2 := Lib.hid SS2
      clear SS2
      by_cases hlt : i < k
      · have HC := Lib.hid (compU_low leaf i n ns hn2 (by rw [← hk]; exact hlt))
        rw [← hk, hlt2.1, hlt2.2] at HC
        have hdk : d = depU i k := by have := HM.out; rw [depU_low i n hn2 (by rw [← hk]; exact hlt), ← hk] at this; omega
        have Hdk := Lib.hid hdk
        clear hk hlt2 hdk
        have hlt' : (i : Int) < (k : Int) := by omega
        go_wp2_with fail
        go_region_held3 (fun w' => (∀ i, i < 8 → w'.cell? ⟨w.heap.size, i, none⟩ = some (.int .u8 (nb8 leaf i))) ∧ (∀ i, i < 8 → w'.cell? ⟨w.heap.size + 1 + 1, i, none⟩ = some (.int .u8 (nb8 (nthN ns d) i)))) (first | with_reducible exact HS2.out _ (far2 hX) | with_reducible exact HS2.out _ (near2 hX)) (first | (go_at_call 86; refine (IH.out leaf k i d _ c (ns.take d) _ (by omega) (by omega) hlt Hdk.out (hs1.ext hX)).mono ?_; rintro e w1 ⟨rfl, he1⟩; have hX := Ext.trans hX he1) | (go_at_call 78; refine (refPair_any 18 _ _ _).mono ?_; rintro e w2 ⟨rfl, he2⟩; have hX := Ext.trans hX he2; have hst := run_storeN (hz.ext hX) (pairU 18 (compU leaf i k (ns.take d)) (nthN ns d))))
        go_wp2_with fail
        refine bodyPost_ret (v := .agg (nmc (pairU 18 (compU leaf i k (ns.take d)) (nthN ns d)))) (retN rfl _ _ (w.heap.size + 1) _ rfl (blkN (hz.ext hX) _)) rfl ⟨by rw [HC.out], Below.setCells' (hE4.trans hX) (by omega) _ _⟩
      · have HC := Lib.hid (compU_high leaf i n ns hn2 (by rw [← hk]; exact hlt))
        rw [← hk, hlt2.1, hlt2.2] at HC
        have hdk : d = depU (i - k) (n - k) := by have := HM.out; rw [depU_high i n hn2 (by rw [← hk]; exact hlt), ← hk] at this; omega
        have Hdk := Lib.hid hdk
        clear hk hlt2 hdk
        have hlt' : ¬ (i : Int) < (k : Int) := by omega
        have hsub : IntKind.i64.wrap ((i : Int) - (k : Int)) = ((i - k : Nat) : Int) := by rw [IntKind.wrap_i64]; omega
        have hsub2 : IntKind.i64.wrap ((n : Int) - (k : Int)) = ((n - k : Nat) : Int) := by rw [IntKind.wrap_i64]; omega
        go_wp2_with fail
        go_region_held3 (fun w' => (∀ i, i < 8 → w'.cell? ⟨w.heap.size, i, none⟩ = some (.int .u8 (nb8 leaf i))) ∧ (∀ i, i < 8 → w'.cell? ⟨w.heap.size + 1 + 1, i, none⟩ = some (.int .u8 (nb8 (nthN ns d) i)))) (first | with_reducible exact HS2.out _ (far2 hX) | with_reducible exact HS2.out _ (near2 hX)) (first | (go_at_call 86; refine (IH.out leaf (n - k) (i - k) d _ c (ns.take d) _ (by omega) (by omega) (by omega) Hdk.out (hs1.ext hX)).mono ?_; rintro e w1 ⟨rfl, he1⟩; have hX := Ext.trans hX he1) | (go_at_call 78; refine (refPair_any 18 _ _ _).mono ?_; rintro e w2 ⟨rfl, he2⟩; have hX := Ext.trans hX he2; have hst := run_storeN (hz.ext hX) (pairU 18 (nthN ns d) (compU leaf (i - k) (n - k) (ns.take d)))))
        go_wp2_with fail
        refine bodyPost_ret (v := .agg (nmc (pairU 18 (nthN ns d) (compU leaf (i - k) (n - k) (ns.take d))))) (retN rfl _ _ (w.heap.size + 1) _ rfl (blkN (hz.ext hX) _)) rfl ⟨by rw [HC.out], Below.setCells' (hE4.trans hX) (by omega) _ _⟩
set_option maxHeartbeats 1000000 in
theorem refFollow_yes (leaf : UInt64) (n i m : Nat) (A : Option Addr) (c : Nat) (ns : List UInt64) (w : World) (hmx : n ≤ 1000000) (hi : i < n) (hm : m = depU i n) (h : SlN w A m c ns) :
    Calls Try.prog 63 #[.agg (nmc leaf), .int .i64 (i : Int), .int .i64 (n : Int), .slice A m c] w fun e w' => e = .returned (.tuple #[.agg (nmc (compU leaf i n ns)), .bool true]) ∧ Ext w w' := by
  have hrl := rangeN ((Blk.new w 61 (nmc leaf)).alloc (.cells zcs.toArray 61))
  have hs := h.ext (((Ext.refl w).alloc' (.cells (nmc leaf) 61)).alloc' (.cells zcs.toArray 61))
  have HM := Lib.hid hm
  clear hm
  have hq : ((m : Int) != (m : Int)) = false := by simp
  go_enter Try.func63, Try.ntmps63
  go_wp2_with (first | (go_at_call 85; refine (refDepth_in i n _ hi hmx).mono ?_; rintro e w1 ⟨rfl, rfl⟩; rw [← HM.out]) | (refine wpList_loadN rfl (.tmp 4) rfl w.heap.size 0 rfl leaf hrl ?_))
  refine (refFollow_any n leaf n i m A c ns _ (Nat.le_refl _) hmx hi HM.out hs).mono ?_
  rintro e w3 ⟨rfl, he3⟩
  have hb0 : Blk w3 (w.heap.size + 1) 61 zcs.toArray := (Blk.newAt _ _ _ _ (by simp)).ext he3
  go_wp2_with (with_reducible refine wpList_storeN rfl _ _ rfl (w.heap.size + 1) 0 _ rfl rfl (thereZ hb0) ?_)
  refine bodyPost_ret (v := .tuple #[.agg (nmc (compU leaf i n ns)), .bool true]) (retNV rfl _ _ (w.heap.size + 1) _ _ rfl rfl (blkN hb0 _)) rfl ⟨rfl, Below.setCells' ((((Ext.refl w).alloc' _).alloc' _).trans he3) (by omega) _ _⟩
end Go.Proofs.Ytengpfpeeihaoaa
