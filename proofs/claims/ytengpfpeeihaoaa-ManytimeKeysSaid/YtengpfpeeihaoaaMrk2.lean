import Derived.Test.YtengpfpeeihaoaaMrk
namespace Go.Proofs.Ytengpfpeeihaoaa
open Go.RowKit
set_option linter.unusedVariables false
set_option linter.unusedSimpArgs false
attribute [local go_sem ↓] Go.wp_at_zero Go.wp_at_succ

set_option maxHeartbeats 400000 in
theorem split_any (n : Nat) (w : World) (h2 : 2 ≤ n) (hm : n ≤ 1000000) :
    Calls Try.prog 89 #[.int .i64 (n : Int)] w fun e w' => e = .returned (.int .i64 (spl n : Int)) ∧ w = w' := by
  go_enter Try.func89, Try.ntmps89
  go_wp2_with fail
  go_loop [3] (fun v => ∃ (f k : Nat), v = .int .i64 (k : Int) ∧ 1 ≤ k ∧ k < n ∧ n - k ≤ f ∧ Hid (splGo f n k = spl n)) (fun v => n - (intOf v).toNat)
  case atStart => exact ⟨n, 1, rfl, by omega, by omega, by omega, rfl⟩
  case round =>
    obtain ⟨f, k, rfl, hk1, hk2, hf, hs⟩ := hrel
    by_cases hlt : k < n - k
    · have hs2 := Lib.hid ((splGo_go f n k hk1 hf hlt).symm.trans hs.out)
      have hlt' : (k : Int) < (n : Int) - (k : Int) := by omega
      go_wp2_with fail
      go_round
      case rel => exact ⟨f - 1, 2 * k, by go_num, by omega, by omega, by omega, hs2⟩
      case measure => simp [intOf]; omega
    · have hs2 := Lib.hid ((splGo_stop f n k hlt).symm.trans hs.out)
      have hlt' : ¬ (k : Int) < (n : Int) - (k : Int) := by omega
      go_wp2_with fail
      go_ret
      exact ⟨by rw [← hs2.out]; rfl, rfl⟩
set_option maxHeartbeats 400000 in
theorem refSplit_any (n : Nat) (w : World) (h2 : 2 ≤ n) (hm : n ≤ 1000000) :
    Calls Try.prog 72 #[.int .i64 (n : Int)] w fun e w' => e = .returned (.int .i64 (spl n : Int)) ∧ w = w' := by
  go_enter Try.func72, Try.ntmps72
  go_wp2_with fail
  go_loop [3] (fun v => ∃ (f k : Nat), v = .int .i64 (k : Int) ∧ 1 ≤ k ∧ k < n ∧ n - k ≤ f ∧ Hid (splGo f n k = spl n)) (fun v => n - (intOf v).toNat)
  case atStart => exact ⟨n, 1, rfl, by omega, by omega, by omega, rfl⟩
  case round =>
    obtain ⟨f, k, rfl, hk1, hk2, hf, hs⟩ := hrel
    by_cases hlt : k < n - k
    · have hs2 := Lib.hid ((splGo_go f n k hk1 hf hlt).symm.trans hs.out)
      have hlt' : (k : Int) < (n : Int) - (k : Int) := by omega
      go_wp2_with fail
      go_round
      case rel => exact ⟨f - 1, 2 * k, by go_num, by omega, by omega, by omega, hs2⟩
      case measure => simp [intOf]; omega
    · have hs2 := Lib.hid ((splGo_stop f n k hlt).symm.trans hs.out)
      have hlt' : ¬ (k : Int) < (n : Int) - (k : Int) := by omega
      go_wp2_with fail
      go_ret
      exact ⟨by rw [← hs2.out]; rfl, rfl⟩
set_option maxHeartbeats 400000 in
theorem single_any (x : UInt64) (w : World) :
    Calls Try.prog 88 #[.agg (nmc x)] w fun e w' => e = .returned (.agg (nmc (leafU x))) ∧ Ext w w' := by
  go_enter Try.func88, Try.ntmps88
  go_wp2_with fail
  refine (tagged_any 17 _ _ _ (nmb x) _ ?h1 (by omega)).mono ?_
  case h1 => exact SlB.blkN ((Blk.new w _ (nmc x)).alloc _)
  rintro e w3 ⟨rfl, he3⟩
  have hb0 : Blk w3 (w.heap.size + 1) 61 zcs.toArray := (Blk.newAt _ _ _ _ (by simp)).ext he3
  go_wp2_with (with_reducible refine wpList_storeN rfl _ _ rfl (w.heap.size + 1) 0 _ rfl rfl (thereZ hb0) ?_)
  refine bodyPost_ret (v := .agg (nmc (leafU x))) (retN rfl _ _ (w.heap.size + 1) _ rfl (blkN hb0 _)) rfl ⟨rfl, Below.setCells' ((((Ext.refl w).alloc' _).alloc' _).trans he3) (by omega) _ _⟩
set_option maxRecDepth 100000 in
set_option maxHeartbeats 1000000 in
theorem root_any (N : Nat) : ∀ (n : Nat) (A : Option Addr) (c : Nat) (ns : List UInt64) (w : World), n ≤ N → n ≤ 1000000 → SlN w A n c ns →
    Calls Try.prog 65 #[.slice A n c] w fun e w' => e = .returned (.agg (nmc (rootU ns))) ∧ Ext w w' := by
  induction N with
  | zero =>
    intro n A c ns w hn _ h
    obtain rfl : n = 0 := by omega
    obtain rfl : ns = [] := List.eq_nil_of_length_eq_zero h.len
    have HR := Lib.hid rootU_nil
    go_enter Try.func65, Try.ntmps65
    go_wp2_with fail
    refine (tagged_any 16 none 0 0 [] _ (SlB.nil _) (by omega)).mono ?_
    rintro e w3 ⟨rfl, he3⟩
    have hb0 : Blk w3 w.heap.size 61 zcs.toArray := (Blk.new w _ _).ext he3
    go_wp2_with (with_reducible refine wpList_storeN rfl _ _ rfl w.heap.size 0 _ rfl rfl (thereZ hb0) ?_)
    refine bodyPost_ret (v := .agg (nmc (tagU 16 []))) (retN rfl _ _ w.heap.size _ rfl (blkN hb0 _)) rfl ⟨by rw [HR.out], Below.setCells' (((Ext.refl w).alloc' _).trans he3) (by omega) _ _⟩
  | succ N ih =>
    intro n A c ns w hn hmx h
    by_cases h0 : n ≤ N
    · exact ih n A c ns w h0 hmx h
    by_cases h1 : n = 1
    · subst h1
      obtain ⟨x, rfl⟩ := List.length_eq_one_iff.1 h.len
      obtain ⟨b, o, rfl, hra, hbl⟩ := h.at (by omega)
      have hnm := (name_nth hra (k := 0) (by simp))
      rw [Nat.zero_mul, Nat.add_zero] at hnm
      have HR := Lib.hid (rootU_one x)
      have hnm2 : (w.alloc (.cells zcs.toArray 61)).rangeAt b o (bcs (nmb x)) := World.rangeAt_alloc hnm _
      go_enter Try.func65, Try.ntmps65
      go_wp2_with (refine wpList_loadN rfl (.tmp 12) rfl b o rfl x hnm2 ?_)
      refine (single_any _ _).mono ?_
      rintro e w3 ⟨rfl, he3⟩
      have hb0 : Blk w3 w.heap.size 61 zcs.toArray := (Blk.new w _ _).ext he3
      go_wp2_with (with_reducible refine wpList_storeN rfl _ _ rfl w.heap.size 0 _ rfl rfl (thereZ hb0) ?_)
      refine bodyPost_ret (v := .agg (nmc (leafU x))) (retN rfl _ _ w.heap.size _ rfl (blkN hb0 _)) rfl ⟨by rw [HR.out], Below.setCells' (((Ext.refl w).alloc' _).trans he3) (by omega) _ _⟩
    by_cases h00 : n = 0
    · exact ih n A c ns w (by omega) hmx h
    have hn2 : 2 ≤ n := by omega
    have hlen := h.len
    have hle := h.le
    have hcap := h.cap
    have hsb := spl_bd n hn2
    have HR := Lib.hid (rootU_many ns (by omega))
    rw [hlen] at HR
    have e0 : ((n : Int) == 0) = false := by simp; omega
    have e1 : ((n : Int) == 1) = false := by simp; omega
    obtain ⟨k, hk⟩ : ∃ k, k = spl n := ⟨_, rfl⟩
    have Hk := Lib.hid hk
    rw [← hk] at hsb HR
    clear hk
    have IH := Lib.hid ih
    clear ih
    have hE1 : Ext w (w.alloc (.cells zcs.toArray 61)).drew := ((Ext.refl w).alloc' _).drew'
    have hX : Ext (w.alloc (.cells zcs.toArray 61)).drew (w.alloc (.cells zcs.toArray 61)).drew := Ext.refl _
    have hz : Blk (w.alloc (.cells zcs.toArray 61)).drew w.heap.size 61 zcs.toArray := (Blk.new w _ _).drew
    have hs1 := (h.upto (k := k) (by omega)).ext hE1
    have hs2 := (h.cut (k := k) (by omega) (by omega)).ext hE1
    have b1 : k ≤ n := by omega
    have b2 : k ≤ c := by omega
    have b3 : ¬ c = k := by omega
    go_enter Try.func65, Try.ntmps65
    go_wp2_with (go_at_call 89; refine (split_any n _ hn2 (by omega)).mono ?_; rintro e w1 ⟨rfl, rfl⟩; rw [← Hk.out])
    go_region_held3 (fun _ => True) (trivial) (first | (go_at_call 65; refine (IH.out _ _ _ _ _ (by omega) (by omega) (by first | exact hs1.ext hX | exact hs2.ext hX)).mono ?_; rintro e w1 ⟨rfl, he1⟩; have hX := Ext.trans hX he1) | (go_at_call 90; refine (pair_any 18 _ _ _).mono ?_; rintro e w1 ⟨rfl, he1⟩; have hX := Ext.trans hX he1; have hst := run_storeN (hz.ext hX) (pairU 18 (rootU (ns.take k)) (rootU (ns.drop k)))))
    go_wp2_with fail
    refine bodyPost_ret (v := .agg (nmc (pairU 18 (rootU (ns.take k)) (rootU (ns.drop k))))) (retN rfl _ _ w.heap.size _ rfl (blkN (hz.ext hX) _)) rfl ⟨by rw [HR.out], Below.setCells' (hE1.trans hX) (Nat.le_refl _) _ _⟩
set_option maxRecDepth 100000 in
set_option maxHeartbeats 1000000 in
theorem refRoot_any (N : Nat) : ∀ (n : Nat) (A : Option Addr) (c : Nat) (ns : List UInt64) (w : World), n ≤ N → n ≤ 1000000 → SlN w A n c ns →
    Calls Try.prog 59 #[.slice A n c] w fun e w' => e = .returned (.agg (nmc (rootU ns))) ∧ Ext w w' := by
  induction N with
  | zero =>
    intro n A c ns w hn _ h
    obtain rfl : n = 0 := by omega
    obtain rfl : ns = [] := List.eq_nil_of_length_eq_zero h.len
    have HR := Lib.hid rootU_nil
    go_enter Try.func59, Try.ntmps59
    go_wp2_with fail
    refine (refTagged_any 16 none 0 0 [] _ (SlB.nil _) (by omega)).mono ?_
    rintro e w3 ⟨rfl, he3⟩
    have hb0 : Blk w3 w.heap.size 61 zcs.toArray := (Blk.new w _ _).ext he3
    go_wp2_with (with_reducible refine wpList_storeN rfl _ _ rfl w.heap.size 0 _ rfl rfl (thereZ hb0) ?_)
    refine bodyPost_ret (v := .agg (nmc (tagU 16 []))) (retN rfl _ _ w.heap.size _ rfl (blkN hb0 _)) rfl ⟨by rw [HR.out], Below.setCells' (((Ext.refl w).alloc' _).trans he3) (by omega) _ _⟩
  | succ N ih =>
    intro n A c ns w hn hmx h
    by_cases h0 : n ≤ N
    · exact ih n A c ns w h0 hmx h
    by_cases h1 : n = 1
    · subst h1
      obtain ⟨x, rfl⟩ := List.length_eq_one_iff.1 h.len
      obtain ⟨b, o, rfl, hra, hbl⟩ := h.at (by omega)
      have hnm := (name_nth hra (k := 0) (by simp))
      rw [Nat.zero_mul, Nat.add_zero] at hnm
      have HR := Lib.hid (rootU_one x)
      have hnm2 : (w.alloc (.cells zcs.toArray 61)).rangeAt b o (bcs (nmb x)) := World.rangeAt_alloc hnm _
      go_enter Try.func59, Try.ntmps59
      go_wp2_with fail
      refine (refTagged_any 17 _ _ _ (nmb x) _ ⟨nmb_length x, Nat.le_refl _, by omega, .inr ⟨b, o, rfl, hnm2⟩⟩ (by omega)).mono ?_
      rintro e w3 ⟨rfl, he3⟩
      have hb0 : Blk w3 w.heap.size 61 zcs.toArray := (Blk.new w _ _).ext he3
      go_wp2_with (with_reducible refine wpList_storeN rfl _ _ rfl w.heap.size 0 _ rfl rfl (thereZ hb0) ?_)
      refine bodyPost_ret (v := .agg (nmc (leafU x))) (retN rfl _ _ w.heap.size _ rfl (blkN hb0 _)) rfl ⟨by rw [HR.out], Below.setCells' (((Ext.refl w).alloc' _).trans he3) (by omega) _ _⟩
    by_cases h00 : n = 0
    · exact ih n A c ns w (by omega) hmx h
    have hn2 : 2 ≤ n := by omega
    have hlen := h.len
    have hle := h.le
    have hcap := h.cap
    have hsb := spl_bd n hn2
    have HR := Lib.hid (rootU_many ns (by omega))
    rw [hlen] at HR
    have e0 : ((n : Int) == 0) = false := by simp; omega
    have e1 : ((n : Int) == 1) = false := by simp; omega
    obtain ⟨k, hk⟩ : ∃ k, k = spl n := ⟨_, rfl⟩
    have Hk := Lib.hid hk
    rw [← hk] at hsb HR
    clear hk
    have IH := Lib.hid ih
    clear ih
    have hE1 : Ext w (w.alloc (.cells zcs.toArray 61)).drew := ((Ext.refl w).alloc' _).drew'
    have hX : Ext (w.alloc (.cells zcs.toArray 61)).drew (w.alloc (.cells zcs.toArray 61)).drew := Ext.refl _
    have hz : Blk (w.alloc (.cells zcs.toArray 61)).drew w.heap.size 61 zcs.toArray := (Blk.new w _ _).drew
    have hs1 := (h.upto (k := k) (by omega)).ext hE1
    have hs2 := (h.cut (k := k) (by omega) (by omega)).ext hE1
    have b1 : k ≤ n := by omega
    have b2 : k ≤ c := by omega
    have b3 : ¬ c = k := by omega
    go_enter Try.func59, Try.ntmps59
    go_wp2_with (go_at_call 72; refine (refSplit_any n _ hn2 (by omega)).mono ?_; rintro e w1 ⟨rfl, rfl⟩; rw [← Hk.out])
    go_region_held3 (fun _ => True) (trivial) (first | (go_at_call 59; refine (IH.out _ _ _ _ _ (by omega) (by omega) (by first | exact hs1.ext hX | exact hs2.ext hX)).mono ?_; rintro e w1 ⟨rfl, he1⟩; have hX := Ext.trans hX he1) | (go_at_call 78; refine (refPair_any 18 _ _ _).mono ?_; rintro e w1 ⟨rfl, he1⟩; have hX := Ext.trans hX he1; have hst := run_storeN (hz.ext hX) (pairU 18 (rootU (ns.take k)) (rootU (ns.drop k)))))
    go_wp2_with fail
    refine bodyPost_ret (v := .agg (nmc (pairU 18 (rootU (ns.take k)) (rootU (ns.drop k))))) (retN rfl _ _ w.heap.size _ rfl (blkN (hz.ext hX) _)) rfl ⟨by rw [HR.out], Below.setCells' (hE1.trans hX) (Nat.le_refl _) _ _⟩
end Go.Proofs.Ytengpfpeeihaoaa
