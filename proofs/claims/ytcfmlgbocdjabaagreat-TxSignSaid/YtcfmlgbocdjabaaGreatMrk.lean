/- The hash tree in plain Lean: roots, paths, the root that follows from a leaf and its path. -/
import Derived.Test.YtcfmlgbocdjabaaGreatOne
namespace Go.Proofs.YtcfmlgbocdjabaaGreat
open Go.RowKit
set_option linter.unusedVariables false
set_option linter.unusedSimpArgs false

/-- the loop of split, with fuel -/
def splGo : Nat → Nat → Nat → Nat
  | 0, _, k => k
  | f + 1, n, k => if k < n - k then splGo f n (2 * k) else k
def spl (n : Nat) : Nat := splGo n n 1
theorem splGo_bd (f n k : Nat) (h1 : 1 ≤ k) (h2 : k < n) : 1 ≤ splGo f n k ∧ splGo f n k < n := by
  induction f generalizing k with
  | zero => exact ⟨h1, h2⟩
  | succ f ih =>
    unfold splGo
    split
    · exact ih (2 * k) (by omega) (by omega)
    · exact ⟨h1, h2⟩
theorem spl_bd (n : Nat) (h : 2 ≤ n) : 1 ≤ spl n ∧ spl n < n := splGo_bd n n 1 (by omega) (by omega)
theorem splGo_stop (f n k : Nat) (h : ¬ k < n - k) : splGo f n k = k := by
  cases f with
  | zero => rfl
  | succ f => unfold splGo; rw [if_neg h]
theorem splGo_go (f n k : Nat) (hk : 1 ≤ k) (hf : n - k ≤ f) (h : k < n - k) : splGo f n k = splGo (f - 1) n (2 * k) := by
  cases f with
  | zero => omega
  | succ f => rw [splGo, if_pos h]; rfl

def leafU (x : UInt64) : UInt64 := tagU 17 (nmb x)
/-- the root of a list of names -/
def rootU (l : List UInt64) : UInt64 :=
  if h : 2 ≤ l.length then pairU 18 (rootU (l.take (spl l.length))) (rootU (l.drop (spl l.length)))
  else match l with
    | [] => tagU 16 []
    | x :: _ => leafU x
termination_by l.length
decreasing_by
  · have := spl_bd _ h; simp; omega
  · have := spl_bd _ h; simp; omega
theorem rootU_nil : rootU [] = tagU 16 [] := by rw [rootU]; simp
theorem rootU_one (x : UInt64) : rootU [x] = leafU x := by rw [rootU]; simp
theorem rootU_many (l : List UInt64) (h : 2 ≤ l.length) : rootU l = pairU 18 (rootU (l.take (spl l.length))) (rootU (l.drop (spl l.length))) := by rw [rootU, dif_pos h]
/-- the path of leaf i -/
def pathU (l : List UInt64) (i : Nat) : List UInt64 :=
  if h : 2 ≤ l.length then
    if i < spl l.length then pathU (l.take (spl l.length)) i ++ [rootU (l.drop (spl l.length))]
    else pathU (l.drop (spl l.length)) (i - spl l.length) ++ [rootU (l.take (spl l.length))]
  else []
termination_by l.length
decreasing_by
  · have := spl_bd _ h; simp; omega
  · have := spl_bd _ h; simp; omega
theorem pathU_short (l : List UInt64) (i : Nat) (h : ¬ 2 ≤ l.length) : pathU l i = [] := by rw [pathU, dif_neg h]
theorem pathU_low (l : List UInt64) (i : Nat) (h : 2 ≤ l.length) (hi : i < spl l.length) : pathU l i = pathU (l.take (spl l.length)) i ++ [rootU (l.drop (spl l.length))] := by rw [pathU, dif_pos h, if_pos hi]
theorem pathU_high (l : List UInt64) (i : Nat) (h : 2 ≤ l.length) (hi : ¬ i < spl l.length) : pathU l i = pathU (l.drop (spl l.length)) (i - spl l.length) ++ [rootU (l.take (spl l.length))] := by rw [pathU, dif_pos h, if_neg hi]
/-- the number of inner nodes above leaf i of n -/
def depU (i n : Nat) : Nat :=
  if h : 2 ≤ n then (if i < spl n then depU i (spl n) else depU (i - spl n) (n - spl n)) + 1 else 0
termination_by n
decreasing_by
  · have := spl_bd _ h; omega
  · have := spl_bd _ h; omega
theorem depU_short (i n : Nat) (h : ¬ 2 ≤ n) : depU i n = 0 := by rw [depU, dif_neg h]
theorem depU_low (i n : Nat) (h : 2 ≤ n) (hi : i < spl n) : depU i n = depU i (spl n) + 1 := by rw [depU, dif_pos h, if_pos hi]
theorem depU_high (i n : Nat) (h : 2 ≤ n) (hi : ¬ i < spl n) : depU i n = depU (i - spl n) (n - spl n) + 1 := by rw [depU, dif_pos h, if_neg hi]
theorem pathU_length (l : List UInt64) (i : Nat) : (pathU l i).length = depU i l.length := by
  generalize hn : l.length = n
  induction n using Nat.strongRecOn generalizing l i with
  | _ n ih =>
    subst hn
    by_cases h : 2 ≤ l.length
    · have hb := spl_bd _ h
      by_cases hi : i < spl l.length
      · rw [pathU_low l i h hi, depU_low _ _ h hi, List.length_append, ih (spl l.length) hb.2 (l.take (spl l.length)) i (by simp; omega)]; rfl
      · rw [pathU_high l i h hi, depU_high _ _ h hi, List.length_append, ih (l.length - spl l.length) (by omega) (l.drop (spl l.length)) _ (by simp)]; rfl
    · rw [pathU_short l i h, depU_short _ _ h]; rfl
/-- the root that follows from a leaf at place i of n and its path -/
def compU (leaf : UInt64) (i n : Nat) (path : List UInt64) : UInt64 :=
  if h : 2 ≤ n then
    if i < spl n then pairU 18 (compU leaf i (spl n) path.dropLast) (path.getLastD 0)
    else pairU 18 (path.getLastD 0) (compU leaf (i - spl n) (n - spl n) path.dropLast)
  else leafU leaf
termination_by n
decreasing_by
  · have := spl_bd _ h; omega
  · have := spl_bd _ h; omega
theorem compU_short (leaf : UInt64) (i n : Nat) (path : List UInt64) (h : ¬ 2 ≤ n) : compU leaf i n path = leafU leaf := by rw [compU, dif_neg h]
theorem compU_low (leaf : UInt64) (i n : Nat) (path : List UInt64) (h : 2 ≤ n) (hi : i < spl n) : compU leaf i n path = pairU 18 (compU leaf i (spl n) path.dropLast) (path.getLastD 0) := by rw [compU, dif_pos h, if_pos hi]
theorem compU_high (leaf : UInt64) (i n : Nat) (path : List UInt64) (h : 2 ≤ n) (hi : ¬ i < spl n) : compU leaf i n path = pairU 18 (path.getLastD 0) (compU leaf (i - spl n) (n - spl n) path.dropLast) := by rw [compU, dif_pos h, if_neg hi]
/-- a leaf and its own path lead to the root -/
theorem compU_pathU (l : List UInt64) (i : Nat) (hi : i < l.length) : compU (l.getD i 0) i l.length (pathU l i) = rootU l := by
  generalize hn : l.length = n
  induction n using Nat.strongRecOn generalizing l i with
  | _ n ih =>
    subst hn
    by_cases h : 2 ≤ l.length
    · have hb := spl_bd _ h
      by_cases hk : i < spl l.length
      · rw [compU_low _ _ _ _ h hk, rootU_many l h, pathU_low l i h hk]
        have e := ih (spl l.length) hb.2 (l.take (spl l.length)) i (by simp; omega) (by simp; omega)
        have e2 : (l.take (spl l.length)).getD i 0 = l.getD i 0 := by simp [List.getElem?_take, hk]
        rw [e2] at e
        rw [List.dropLast_concat, List.getLastD_concat, e]
      · rw [compU_high _ _ _ _ h hk, rootU_many l h, pathU_high l i h hk]
        have e := ih (l.length - spl l.length) (by omega) (l.drop (spl l.length)) (i - spl l.length) (by simp; omega) (by simp)
        have e2 : (l.drop (spl l.length)).getD (i - spl l.length) 0 = l.getD i 0 := by
          simp [List.getElem?_drop, show spl l.length + (i - spl l.length) = i from by omega]
        rw [e2] at e
        rw [List.dropLast_concat, List.getLastD_concat, e]
    · have h1 : l.length = 1 := by omega
      obtain ⟨x, rfl⟩ := List.length_eq_one_iff.1 h1
      obtain rfl : i = 0 := by simp at hi; omega
      rw [compU_short _ _ _ _ (by simp), rootU_one]; rfl
end Go.Proofs.YtcfmlgbocdjabaaGreat
namespace Go.Proofs.YtcfmlgbocdjabaaGreat
open Go.RowKit
set_option linter.unusedVariables false
set_option linter.unusedSimpArgs false
attribute [local go_sem ↓] Go.wp_at_zero Go.wp_at_succ

set_option maxHeartbeats 400000 in
theorem split_any (n : Nat) (w : World) (h2 : 2 ≤ n) (hm : n ≤ 1000000) :
    Calls Tryz.prog 153 #[.int .i64 (n : Int)] w fun e w' => e = .returned (.int .i64 (spl n : Int)) ∧ w = w' := by
  go_enter Tryz.func153, Tryz.ntmps153
  go_wp2_with fail
  go_loop [3] (fun v => ∃ (f k : Nat), v = .int .i64 (k : Int) ∧ 1 ≤ k ∧ k < n ∧ n - k ≤ f ∧ Hid (splGo f n k = spl n)) (fun v => n - (intOf v).toNat)
  case atStart => exact ⟨n, 1, rfl, by omega, by omega, by omega, rfl⟩
  case round =>
    obtain ⟨f, k, rfl, hk1, hk2, hf, hs⟩ := hrel
    by_cases hlt : k < n - k
    · have hs2 := Lib.hid ((splGo_go f n k hk1 hf hlt).symm.trans hs.out)
      have hlt' : (k : Int) < (n : Int) - (k : Int) := by omega
      go_wp2_with fail
      go_round
      case rel => exact ⟨f - 1, 2 * k, by go_num, by omega, by omega, by omega, hs2⟩
      case measure => simp [intOf]; omega
    · have hs2 := Lib.hid ((splGo_stop f n k hlt).symm.trans hs.out)
      have hlt' : ¬ (k : Int) < (n : Int) - (k : Int) := by omega
      go_wp2_with fail
      go_ret
      exact ⟨by rw [← hs2.out]; rfl, rfl⟩
set_option maxHeartbeats 400000 in
theorem refSplit_any (n : Nat) (w : World) (h2 : 2 ≤ n) (hm : n ≤ 1000000) :
    Calls Tryz.prog 77 #[.int .i64 (n : Int)] w fun e w' => e = .returned (.int .i64 (spl n : Int)) ∧ w = w' := by
  go_enter Tryz.func77, Tryz.ntmps77
  go_wp2_with fail
  go_loop [3] (fun v => ∃ (f k : Nat), v = .int .i64 (k : Int) ∧ 1 ≤ k ∧ k < n ∧ n - k ≤ f ∧ Hid (splGo f n k = spl n)) (fun v => n - (intOf v).toNat)
  case atStart => exact ⟨n, 1, rfl, by omega, by omega, by omega, rfl⟩
  case round =>
    obtain ⟨f, k, rfl, hk1, hk2, hf, hs⟩ := hrel
    by_cases hlt : k < n - k
    · have hs2 := Lib.hid ((splGo_go f n k hk1 hf hlt).symm.trans hs.out)
      have hlt' : (k : Int) < (n : Int) - (k : Int) := by omega
      go_wp2_with fail
      go_round
      case rel => exact ⟨f - 1, 2 * k, by go_num, by omega, by omega, by omega, hs2⟩
      case measure => simp [intOf]; omega
    · have hs2 := Lib.hid ((splGo_stop f n k hlt).symm.trans hs.out)
      have hlt' : ¬ (k : Int) < (n : Int) - (k : Int) := by omega
      go_wp2_with fail
      go_ret
      exact ⟨by rw [← hs2.out]; rfl, rfl⟩
set_option maxHeartbeats 400000 in
theorem single_any (x : UInt64) (w : World) :
    Calls Tryz.prog 152 #[.agg (nmc x)] w fun e w' => e = .returned (.agg (nmc (leafU x))) ∧ Ext w w' := by
  go_enter Tryz.func152, Tryz.ntmps152
  go_wp2_with fail
  refine (tagged_any 17 _ _ _ (nmb x) _ ?h1 (by omega)).mono ?_
  case h1 => exact SlB.blkN ((Blk.new w _ (nmc x)).alloc _)
  rintro e w3 ⟨rfl, he3⟩
  have hb0 : Blk w3 (w.heap.size + 1) 23 zcs.toArray := (Blk.newAt _ _ _ _ (by simp)).ext he3
  go_wp2_with (with_reducible refine wpList_storeN rfl _ _ rfl (w.heap.size + 1) 0 _ rfl rfl (thereZ hb0) ?_)
  refine bodyPost_ret (v := .agg (nmc (leafU x))) (retN rfl _ _ (w.heap.size + 1) _ rfl (blkN hb0 _)) rfl ⟨rfl, Below.setCells' ((((Ext.refl w).alloc' _).alloc' _).trans he3) (by omega) _ _⟩
set_option maxRecDepth 100000 in
set_option maxHeartbeats 1000000 in
theorem root_any (N : Nat) : ∀ (n : Nat) (A : Option Addr) (c : Nat) (ns : List UInt64) (w : World), n ≤ N → n ≤ 1000000 → SlN w A n c ns →
    Calls Tryz.prog 110 #[.slice A n c] w fun e w' => e = .returned (.agg (nmc (rootU ns))) ∧ Ext w w' := by
  induction N with
  | zero =>
    intro n A c ns w hn _ h
    obtain rfl : n = 0 := by omega
    obtain rfl : ns = [] := List.eq_nil_of_length_eq_zero h.len
    have HR := Lib.hid rootU_nil
    go_enter Tryz.func110, Tryz.ntmps110
    go_wp2_with fail
    refine (tagged_any 16 none 0 0 [] _ (SlB.nil _) (by omega)).mono ?_
    rintro e w3 ⟨rfl, he3⟩
    have hb0 : Blk w3 w.heap.size 23 zcs.toArray := (Blk.new w _ _).ext he3
    go_wp2_with (with_reducible refine wpList_storeN rfl _ _ rfl w.heap.size 0 _ rfl rfl (thereZ hb0) ?_)
    refine bodyPost_ret (v := .agg (nmc (tagU 16 []))) (retN rfl _ _ w.heap.size _ rfl (blkN hb0 _)) rfl ⟨by rw [HR.out], Below.setCells' (((Ext.refl w).alloc' _).trans he3) (by omega) _ _⟩
  | succ N ih =>
    intro n A c ns w hn hmx h
    by_cases h0 : n ≤ N
    · exact ih n A c ns w h0 hmx h
    by_cases h1 : n = 1
    · subst h1
      obtain ⟨x, rfl⟩ := List.length_eq_one_iff.1 h.len
      obtain ⟨b, o, rfl, hra, hbl⟩ := h.at (by omega)
      have hnm := (name_nth hra (k := 0) (by simp))
      rw [Nat.zero_mul, Nat.add_zero] at hnm
      have HR := Lib.hid (rootU_one x)
      have hnm2 : (w.alloc (.cells zcs.toArray 23)).rangeAt b o (bcs (nmb x)) := World.rangeAt_alloc hnm _
      go_enter Tryz.func110, Tryz.ntmps110
      go_wp2_with (refine wpList_loadN rfl (.tmp 12) rfl b o rfl x hnm2 ?_)
      refine (single_any _ _).mono ?_
      rintro e w3 ⟨rfl, he3⟩
      have hb0 : Blk w3 w.heap.size 23 zcs.toArray := (Blk.new w _ _).ext he3
      go_wp2_with (with_reducible refine wpList_storeN rfl _ _ rfl w.heap.size 0 _ rfl rfl (thereZ hb0) ?_)
      refine bodyPost_ret (v := .agg (nmc (leafU x))) (retN rfl _ _ w.heap.size _ rfl (blkN hb0 _)) rfl ⟨by rw [HR.out], Below.setCells' (((Ext.refl w).alloc' _).trans he3) (by omega) _ _⟩
    by_cases h00 : n = 0
    · exact ih n A c ns w (by omega) hmx h
    have hn2 : 2 ≤ n := by omega
    have hlen := h.len
    have hle := h.le
    have hcap := h.cap
    have hsb := spl_bd n hn2
    have HR := Lib.hid (rootU_many ns (by omega))
    rw [hlen] at HR
    have e0 : ((n : Int) == 0) = false := by simp; omega
    have e1 : ((n : Int) == 1) = false := by simp; omega
    obtain ⟨k, hk⟩ : ∃ k, k = spl n := ⟨_, rfl⟩
    have Hk := Lib.hid hk
    rw [← hk] at hsb HR
    clear hk
    have IH := Lib.hid ih
    clear ih
    have hE1 : Ext w (w.alloc (.cells zcs.toArray 23)).drew := ((Ext.refl w).alloc' _).drew'
    have hX : Ext (w.alloc (.cells zcs.toArray 23)).drew (w.alloc (.cells zcs.toArray 23)).drew := Ext.refl _
    have hz : Blk (w.alloc (.cells zcs.toArray 23)).drew w.heap.size 23 zcs.toArray := (Blk.new w _ _).drew
    have hs1 := (h.upto (k := k) (by omega)).ext hE1
    have hs2 := (h.cut (k := k) (by omega) (by omega)).ext hE1
    have b1 : k ≤ n := by omega
    have b2 : k ≤ c := by omega
    have b3 : ¬ c = k := by omega
    go_enter Tryz.func110, Tryz.ntmps110
    go_wp2_with (go_at_call 153; refine (split_any n _ hn2 (by omega)).mono ?_; rintro e w1 ⟨rfl, rfl⟩; rw [← Hk.out])
    go_region_held3 (fun _ => True) (trivial) (first | (go_at_call 110; refine (IH.out _ _ _ _ _ (by omega) (by omega) (by first | exact hs1.ext hX | exact hs2.ext hX)).mono ?_; rintro e w1 ⟨rfl, he1⟩; have hX := Ext.trans hX he1) | (go_at_call 154; refine (pair_any 18 _ _ _).mono ?_; rintro e w1 ⟨rfl, he1⟩; have hX := Ext.trans hX he1; have hst := run_storeN (hz.ext hX) (pairU 18 (rootU (ns.take k)) (rootU (ns.drop k)))))
    go_wp2_with fail
    refine bodyPost_ret (v := .agg (nmc (pairU 18 (rootU (ns.take k)) (rootU (ns.drop k))))) (retN rfl _ _ w.heap.size _ rfl (blkN (hz.ext hX) _)) rfl ⟨by rw [HR.out], Below.setCells' (hE1.trans hX) (Nat.le_refl _) _ _⟩
set_option maxRecDepth 100000 in
set_option maxHeartbeats 1000000 in
theorem refRoot_any (N : Nat) : ∀ (n : Nat) (A : Option Addr) (c : Nat) (ns : List UInt64) (w : World), n ≤ N → n ≤ 1000000 → SlN w A n c ns →
    Calls Tryz.prog 33 #[.slice A n c] w fun e w' => e = .returned (.agg (nmc (rootU ns))) ∧ Ext w w' := by
  induction N with
  | zero =>
    intro n A c ns w hn _ h
    obtain rfl : n = 0 := by omega
    obtain rfl : ns = [] := List.eq_nil_of_length_eq_zero h.len
    have HR := Lib.hid rootU_nil
    go_enter Tryz.func33, Tryz.ntmps33
    go_wp2_with fail
    refine (refTagged_any 16 none 0 0 [] _ (SlB.nil _) (by omega)).mono ?_
    rintro e w3 ⟨rfl, he3⟩
    have hb0 : Blk w3 w.heap.size 23 zcs.toArray := (Blk.new w _ _).ext he3
    go_wp2_with (with_reducible refine wpList_storeN rfl _ _ rfl w.heap.size 0 _ rfl rfl (thereZ hb0) ?_)
    refine bodyPost_ret (v := .agg (nmc (tagU 16 []))) (retN rfl _ _ w.heap.size _ rfl (blkN hb0 _)) rfl ⟨by rw [HR.out], Below.setCells' (((Ext.refl w).alloc' _).trans he3) (by omega) _ _⟩
  | succ N ih =>
    intro n A c ns w hn hmx h
    by_cases h0 : n ≤ N
    · exact ih n A c ns w h0 hmx h
    by_cases h1 : n = 1
    · subst h1
      obtain ⟨x, rfl⟩ := List.length_eq_one_iff.1 h.len
      obtain ⟨b, o, rfl, hra, hbl⟩ := h.at (by omega)
      have hnm := (name_nth hra (k := 0) (by simp))
      rw [Nat.zero_mul, Nat.add_zero] at hnm
      have HR := Lib.hid (rootU_one x)
      have hnm2 : (w.alloc (.cells zcs.toArray 23)).rangeAt b o (bcs (nmb x)) := World.rangeAt_alloc hnm _
      go_enter Tryz.func33, Tryz.ntmps33
      go_wp2_with fail
      refine (refTagged_any 17 _ _ _ (nmb x) _ ⟨nmb_length x, Nat.le_refl _, by omega, .inr ⟨b, o, rfl, hnm2⟩⟩ (by omega)).mono ?_
      rintro e w3 ⟨rfl, he3⟩
      have hb0 : Blk w3 w.heap.size 23 zcs.toArray := (Blk.new w _ _).ext he3
      go_wp2_with (with_reducible refine wpList_storeN rfl _ _ rfl w.heap.size 0 _ rfl rfl (thereZ hb0) ?_)
      refine bodyPost_ret (v := .agg (nmc (leafU x))) (retN rfl _ _ w.heap.size _ rfl (blkN hb0 _)) rfl ⟨by rw [HR.out], Below.setCells' (((Ext.refl w).alloc' _).trans he3) (by omega) _ _⟩
    by_cases h00 : n = 0
    · exact ih n A c ns w (by omega) hmx h
    have hn2 : 2 ≤ n := by omega
    have hlen := h.len
    have hle := h.le
    have hcap := h.cap
    have hsb := spl_bd n hn2
    have HR := Lib.hid (rootU_many ns (by omega))
    rw [hlen] at HR
    have e0 : ((n : Int) == 0) = false := by simp; omega
    have e1 : ((n : Int) == 1) = false := by simp; omega
    obtain ⟨k, hk⟩ : ∃ k, k = spl n := ⟨_, rfl⟩
    have Hk := Lib.hid hk
    rw [← hk] at hsb HR
    clear hk
    have IH := Lib.hid ih
    clear ih
    have hE1 : Ext w (w.alloc (.cells zcs.toArray 23)).drew := ((Ext.refl w).alloc' _).drew'
    have hX : Ext (w.alloc (.cells zcs.toArray 23)).drew (w.alloc (.cells zcs.toArray 23)).drew := Ext.refl _
    have hz : Blk (w.alloc (.cells zcs.toArray 23)).drew w.heap.size 23 zcs.toArray := (Blk.new w _ _).drew
    have hs1 := (h.upto (k := k) (by omega)).ext hE1
    have hs2 := (h.cut (k := k) (by omega) (by omega)).ext hE1
    have b1 : k ≤ n := by omega
    have b2 : k ≤ c := by omega
    have b3 : ¬ c = k := by omega
    go_enter Tryz.func33, Tryz.ntmps33
    go_wp2_with (go_at_call 77; refine (refSplit_any n _ hn2 (by omega)).mono ?_; rintro e w1 ⟨rfl, rfl⟩; rw [← Hk.out])
    go_region_held3 (fun _ => True) (trivial) (first | (go_at_call 33; refine (IH.out _ _ _ _ _ (by omega) (by omega) (by first | exact hs1.ext hX | exact hs2.ext hX)).mono ?_; rintro e w1 ⟨rfl, he1⟩; have hX := Ext.trans hX he1) | (go_at_call 78; refine (refPair_any 18 _ _ _).mono ?_; rintro e w1 ⟨rfl, he1⟩; have hX := Ext.trans hX he1; have hst := run_storeN (hz.ext hX) (pairU 18 (rootU (ns.take k)) (rootU (ns.drop k)))))
    go_wp2_with fail
    refine bodyPost_ret (v := .agg (nmc (pairU 18 (rootU (ns.take k)) (rootU (ns.drop k))))) (retN rfl _ _ w.heap.size _ rfl (blkN (hz.ext hX) _)) rfl ⟨by rw [HR.out], Below.setCells' (hE1.trans hX) (Nat.le_refl _) _ _⟩
end Go.Proofs.YtcfmlgbocdjabaaGreat
namespace Go.Proofs.YtcfmlgbocdjabaaGreat
open Go.RowKit
set_option linter.unusedVariables false
set_option linter.unusedSimpArgs false
attribute [local go_sem ↓] Go.wp_at_zero Go.wp_at_succ

set_option maxHeartbeats 1000000 in
theorem depth_in (i n : Nat) (w : World) (hi : i < n) (hm : n ≤ 1000000) :
    Calls Tryz.prog 161 #[.int .i64 (i : Int), .int .i64 (n : Int)] w fun e w' => e = .returned (.int .i64 (depU i n : Int)) ∧ w = w' := by
  have e1 : decide (n ≤ i) = false := decide_eq_false (by omega)
  have e0 : decide ((i : Int) < 0) = false := decide_eq_false (by omega)
  go_enter Tryz.func161, Tryz.ntmps161
  go_wp2_with fail
  go_loop [0, 1, 5] (fun vi vn vd => ∃ (i' n' d : Nat), vi = .int .i64 (i' : Int) ∧ vn = .int .i64 (n' : Int) ∧ vd = .int .i64 (d : Int) ∧ i' < n' ∧ d + n' ≤ n ∧ Hid (d + depU i' n' = depU i n)) (fun _ vn _ => (intOf vn).toNat)
  case atStart => exact ⟨i, n, 0, rfl, rfl, rfl, hi, by omega, Nat.zero_add _⟩
  case round =>
    obtain ⟨i', n', d, rfl, rfl, rfl, hi', hd, hs⟩ := hrel
    by_cases h2 : 2 ≤ n'
    · have hsb := spl_bd n' h2
      have h2' : (1 : Int) < (n' : Int) := by omega
      obtain ⟨k, hk⟩ : ∃ k, k = spl n' := ⟨_, rfl⟩
      have Hk := Lib.hid hk
      rw [← hk] at hsb
      clear hk
      by_cases hlt : i' < k
      · have hs2 : Hid (d + 1 + depU i' k = depU i n) := Lib.hid (by have := hs.out; rw [depU_low i' n' h2 (by rw [← Hk.out]; exact hlt), ← Hk.out] at this; omega)
        have hk' : (i' : Int) < (k : Int) := by omega
        go_wp2_with (go_at_call 153; refine (split_any n' _ h2 (by omega)).mono ?_; rintro e w1 ⟨rfl, rfl⟩; rw [← Hk.out])
        go_round
        case rel => first | exact ⟨i', k, d + 1, rfl, rfl, by go_num, hlt, by omega, hs2⟩ | (refine ⟨trivial, ?_⟩; (repeat apply Exists.intro); exact ⟨⟨i', k, d + 1, rfl, rfl, by go_num, hlt, by omega, hs2⟩, rfl⟩)
        case measure => simp [intOf]; omega
      · have hs2 : Hid (d + 1 + depU (i' - k) (n' - k) = depU i n) := Lib.hid (by have := hs.out; rw [depU_high i' n' h2 (by rw [← Hk.out]; exact hlt), ← Hk.out] at this; omega)
        have hk' : ¬ (i' : Int) < (k : Int) := by omega
        go_wp2_with (go_at_call 153; refine (split_any n' _ h2 (by omega)).mono ?_; rintro e w1 ⟨rfl, rfl⟩; rw [← Hk.out])
        go_round
        case rel => first | exact ⟨i' - k, n' - k, d + 1, by go_num, by go_num, by go_num, by omega, by omega, hs2⟩ | (refine ⟨trivial, ?_⟩; (repeat apply Exists.intro); exact ⟨⟨i' - k, n' - k, d + 1, by go_num, by go_num, by go_num, by omega, by omega, hs2⟩, rfl⟩)
        case measure => simp [intOf]; omega
    · have hs2 : Hid (d = depU i n) := Lib.hid (by have := hs.out; rw [depU_short i' n' h2] at this; omega)
      have h2' : ¬ (1 : Int) < (n' : Int) := by omega
      go_wp2_with fail
      go_ret
      exact ⟨by rw [← hs2.out]; rfl, rfl⟩
set_option maxHeartbeats 1000000 in
theorem depth_out (i n : Int) (w : World) (h : i < 0 ∨ n ≤ i) :
    Calls Tryz.prog 161 #[.int .i64 i, .int .i64 n] w fun e w' => e = .returned (.int .i64 (-1)) ∧ w = w' := by
  by_cases h0 : i < 0
  · go_enter Tryz.func161, Tryz.ntmps161
    go_wp2_with fail
    go_ret
    exact ⟨rfl, rfl⟩
  · have h1 : n ≤ i := by omega
    go_enter Tryz.func161, Tryz.ntmps161
    go_wp2_with fail
    go_ret
    exact ⟨rfl, rfl⟩
set_option maxHeartbeats 1000000 in
theorem refDepth_in (i n : Nat) (w : World) (hi : i < n) (hm : n ≤ 1000000) :
    Calls Tryz.prog 124 #[.int .i64 (i : Int), .int .i64 (n : Int)] w fun e w' => e = .returned (.int .i64 (depU i n : Int)) ∧ w = w' := by
  have e1 : decide (n ≤ i) = false := decide_eq_false (by omega)
  have e0 : decide ((i : Int) < 0) = false := decide_eq_false (by omega)
  go_enter Tryz.func124, Tryz.ntmps124
  go_wp2_with fail
  go_loop [0, 1, 5] (fun vi vn vd => ∃ (i' n' d : Nat), vi = .int .i64 (i' : Int) ∧ vn = .int .i64 (n' : Int) ∧ vd = .int .i64 (d : Int) ∧ i' < n' ∧ d + n' ≤ n ∧ Hid (d + depU i' n' = depU i n)) (fun _ vn _ => (intOf vn).toNat)
  case atStart => exact ⟨i, n, 0, rfl, rfl, rfl, hi, by omega, Nat.zero_add _⟩
  case round =>
    obtain ⟨i', n', d, rfl, rfl, rfl, hi', hd, hs⟩ := hrel
    by_cases h2 : 2 ≤ n'
    · have hsb := spl_bd n' h2
      have h2' : (1 : Int) < (n' : Int) := by omega
      obtain ⟨k, hk⟩ : ∃ k, k = spl n' := ⟨_, rfl⟩
      have Hk := Lib.hid hk
      rw [← hk] at hsb
      clear hk
      by_cases hlt : i' < k
      · have hs2 : Hid (d + 1 + depU i' k = depU i n) := Lib.hid (by have := hs.out; rw [depU_low i' n' h2 (by rw [← Hk.out]; exact hlt), ← Hk.out] at this; omega)
        have hk' : (i' : Int) < (k : Int) := by omega
        go_wp2_with (go_at_call 77; refine (refSplit_any n' _ h2 (by omega)).mono ?_; rintro e w1 ⟨rfl, rfl⟩; rw [← Hk.out])
        go_round
        case rel => first | exact ⟨i', k, d + 1, rfl, rfl, by go_num, hlt, by omega, hs2⟩ | (refine ⟨trivial, ?_⟩; (repeat apply Exists.intro); exact ⟨⟨i', k, d + 1, rfl, rfl, by go_num, hlt, by omega, hs2⟩, rfl⟩)
        case measure => simp [intOf]; omega
      · have hs2 : Hid (d + 1 + depU (i' - k) (n' - k) = depU i n) := Lib.hid (by have := hs.out; rw [depU_high i' n' h2 (by rw [← Hk.out]; exact hlt), ← Hk.out] at this; omega)
        have hk' : ¬ (i' : Int) < (k : Int) := by omega
        go_wp2_with (go_at_call 77; refine (refSplit_any n' _ h2 (by omega)).mono ?_; rintro e w1 ⟨rfl, rfl⟩; rw [← Hk.out])
        go_round
        case rel => first | exact ⟨i' - k, n' - k, d + 1, by go_num, by go_num, by go_num, by omega, by omega, hs2⟩ | (refine ⟨trivial, ?_⟩; (repeat apply Exists.intro); exact ⟨⟨i' - k, n' - k, d + 1, by go_num, by go_num, by go_num, by omega, by omega, hs2⟩, rfl⟩)
        case measure => simp [intOf]; omega
    · have hs2 : Hid (d = depU i n) := Lib.hid (by have := hs.out; rw [depU_short i' n' h2] at this; omega)
      have h2' : ¬ (1 : Int) < (n' : Int) := by omega
      go_wp2_with fail
      go_ret
      exact ⟨by rw [← hs2.out]; rfl, rfl⟩
set_option maxHeartbeats 1000000 in
theorem refDepth_out (i n : Int) (w : World) (h : i < 0 ∨ n ≤ i) :
    Calls Tryz.prog 124 #[.int .i64 i, .int .i64 n] w fun e w' => e = .returned (.int .i64 (-1)) ∧ w = w' := by
  by_cases h0 : i < 0
  · go_enter Tryz.func124, Tryz.ntmps124
    go_wp2_with fail
    go_ret
    exact ⟨rfl, rfl⟩
  · have h1 : n ≤ i := by omega
    go_enter Tryz.func124, Tryz.ntmps124
    go_wp2_with fail
    go_ret
    exact ⟨rfl, rfl⟩
section
variable {P : Program} {t e : TypeId} {z : Value} {size bytes : Nat}
/-- append to a slice without room: what it holds is copied -/
theorem run_appFull (E : Elem P t e z size bytes) (ty : TypeId) (w : World) (A : Option Addr) (n : Nat) (xs : List Value) (hra : Rd w A xs) (hla : xs.length = n * size)
    (A2 : Option Addr) (m c2 : Nat) (ys : List Value) (hr : Rd w A2 ys) (hl : ys.length = m * size) (hm : 0 < m)
    (hb : (n + m) * bytes ≤ 140737488355328) (h63 : n + m ≤ 4611686018427387904) :
    ∃ A' c' w', (Builtin.append_ #[t, t] ty #[.slice A n n, .slice A2 m c2]).run P w = .ok (.slice A' (n + m) c') w' ∧ w'.ownsRow w.heap.size e size (.slice A' (n + m) c') (n + m) (xs ++ ys) ∧ Ext w w' := by
  obtain ⟨i, hi, hz, hs, hby⟩ := E.get
  subst hs; subst hby
  have hp := E.pos
  obtain ⟨ad2, rfl, hcb⟩ := hr.src (by rw [hl]; exact Nat.mul_pos hm hp)
  rcases A with _ | ad
  · have hx : xs = [] := by
      rcases hra with h | ⟨b, o, h, _⟩
      · exact h
      · cases h
    subst hx
    have hn : n = 0 := by
      rcases Nat.eq_zero_or_pos n with h | h
      · exact h
      · have := Nat.mul_pos h hp; simp at hla; omega
    subst hn
    have hrun := run_append_nil (P := P) w t ty e i z E.ut hi hz ad2 m c2 ys hl hcb hm (by omega) (by have hb := hb; simp only [Nat.zero_add] at hb; omega)
    have hge := grownCap_ge w m 0 e
    have hcm : grownCap w m 0 e ≤ maxLen := grownCap_le_maxLen w m 0 e (by simp only [maxLen]; omega)
    simp only [Nat.zero_add, List.nil_append]
    refine ⟨_, _, _, hrun, ⟨hl, .inr ⟨w.heap.size, _, _, rfl, Nat.le_refl _, heap_alloc_new w.drew _, hge, hcm, ?_, ?_⟩⟩, (Ext.refl w).drew'.alloc' _⟩
    · simp only [Array.size_append, List.size_toArray, size_zeroCells, E.zs, hl, ← Nat.add_mul]
      congr 1; omega
    · simp only [Array.toList_append]
      rw [← hl]
      exact List.take_left
  · have hca : ∀ j v, xs[j]? = some v → w.cell? (ad.add j) = some v := by
      intro j v hv
      obtain ⟨ad', h, hc⟩ := hra.src (by have := (List.getElem?_eq_some_iff.1 hv).1; omega)
      injection h with h; subst h; exact hc j v hv
    have hg : n < n + m := by omega
    have hrun := run_append_grow (P := P) w t ty e i z E.ut hi hz ad n n xs hla hca ad2 m c2 ys hl hcb hg (by omega) (growslice_fits hg hb)
    refine ⟨_, _, _, hrun, ⟨by rw [List.length_append, hla, hl, Nat.add_mul], .inr ⟨w.heap.size, _, _, rfl, Nat.le_refl _, heap_alloc_new w.drew _, grownCap_ge w _ _ _, grownCap_le_maxLen w _ _ _ (by simp only [maxLen]; omega), ?_, ?_⟩⟩, (Ext.refl w).drew'.alloc' _⟩
    · simp only [Array.size_append, List.size_toArray, size_zeroCells, E.zs, hla, hl, ← Nat.add_mul]
      have := grownCap_ge w (n + m) n e
      congr 1; omega
    · simp only [Array.toList_append, List.append_assoc]
      rw [← List.append_assoc, show (n + m) * i.size = (xs ++ ys).length from by rw [List.length_append, hla, hl, Nat.add_mul]]
      exact List.take_left
theorem step_appFull {ops : Array Oper} {o : Oper} {a : Act} {w : World} {K : Act → World → Prop} {Q : Exit → Act → World → Prop} {X : Prop} (E : Elem P t e z size bytes) (hgd : o.guard = none) (s x : Operand)
    (ho : o.op = .call { callee := .builtin .append, args := #[s, x], argTypes := #[t, t] })
    (A : Option Addr) (n : Nat) (xs : List Value) (hs : a.eval s = .slice A n n) (hra : Rd w A xs) (hla : xs.length = n * size)
    (A2 : Option Addr) (m c2 : Nat) (ys : List Value) (hx : a.eval x = .slice A2 m c2) (hr : Rd w A2 ys) (hl : ys.length = m * size) (hm : 0 < m)
    (hb : (n + m) * bytes ≤ 140737488355328) (h63 : n + m ≤ 4611686018427387904)
    (h : ∀ A' c' w', w'.ownsRow w.heap.size e size (.slice A' (n + m) c') (n + m) (xs ++ ys) → Ext w w' → K (a.put o.dst (.slice A' (n + m) c')) w') : if Region.wanted o (yielded ops a.tmps) = true then Oper.wp P o a w K Q else X := by
  have hw : Region.wanted o (yielded ops a.tmps) = true := by simp [Region.wanted, hgd]
  rw [if_pos hw]
  obtain ⟨A', c', w', hrun, h2, h3⟩ := run_appFull E o.type w A n xs hra hla A2 m c2 ys hr hl hm hb h63
  unfold Oper.wp execOp
  simp only [ho, resolve, invoke, builtin, Sem.run_bind, Sem.run_pure, Result.andThen_ok, List.map_toArray, List.map_cons, List.map_nil, hs, hx, hrun]
  exact h A' c' w' h2 h3
end
end Go.Proofs.YtcfmlgbocdjabaaGreat
namespace Go.Proofs.YtcfmlgbocdjabaaGreat
open Go.RowKit
set_option linter.unusedVariables false
set_option linter.unusedSimpArgs false
attribute [local go_sem ↓] Go.wp_at_zero Go.wp_at_succ

theorem depU_le (i n : Nat) : depU i n ≤ n := by
  induction n using Nat.strongRecOn generalizing i with
  | _ n ih =>
    by_cases h : 2 ≤ n
    · have hb := spl_bd n h
      by_cases hi : i < spl n
      · rw [depU_low i n h hi]; have := ih (spl n) hb.2 i; omega
      · rw [depU_high i n h hi]; have := ih (n - spl n) (by omega) (i - spl n); omega
    · rw [depU_short i n h]; omega
set_option maxRecDepth 100000 in
set_option maxHeartbeats 1000000 in
theorem refPath_any (N : Nat) : ∀ (n i : Nat) (A : Option Addr) (c : Nat) (ns : List UInt64) (w : World), n ≤ N → n ≤ 1000000 → i < n → SlN w A n c ns →
    Calls Tryz.prog 68 #[.slice A n c, .int .i64 (i : Int)] w fun e w' => ∃ A' c', e = .returned (.tuple #[.slice A' (depU i n) c', .bool true]) ∧ w'.ownsRow w.heap.size 23 8 (.slice A' (depU i n) c') (depU i n) (ncs (pathU ns i)) ∧ Ext w w' := by
  induction N with
  | zero => intro n i A c ns w hn _ hi h; omega
  | succ N ih =>
    intro n i A c ns w hn hmx hi h
    by_cases h0 : n ≤ N
    · exact ih n i A c ns w h0 hmx hi h
    have e0 : decide ((i : Int) < 0) = false := decide_eq_false (by omega)
    have e1 : decide (n ≤ i) = false := decide_eq_false (by omega)
    by_cases h1 : n = 1
    · subst h1
      have HD := Lib.hid (depU_short i 1 (by omega))
      have HP := Lib.hid (pathU_short ns i (by rw [h.len]; omega))
      go_enter Tryz.func68, Tryz.ntmps68
      go_wp2_with fail
      go_ret2
      rw [HD.out, HP.out]
      exact ⟨none, 0, rfl, World.ownsRow_nil _ _ _ _, Ext.refl w⟩
    have hn2 : 2 ≤ n := by omega
    have hlen := h.len
    have hle := h.le
    have hcap := h.cap
    have hsb := spl_bd n hn2
    have n1 : ((n : Int) == 1) = false := by simp; omega
    obtain ⟨k, hk⟩ : ∃ k, k = spl n := ⟨_, rfl⟩
    have Hk := Lib.hid hk
    rw [← hk] at hsb
    have IH := Lib.hid ih
    clear ih
    have hs1 := h.upto (k := k) (by omega)
    have hs2 := h.cut (k := k) (by omega) (by omega)
    have b1 : k ≤ n := by omega
    have b2 : k ≤ c := by omega
    have b3 : ¬ c = k := by omega
    by_cases hlt : i < k
    · have HD := Lib.hid (depU_low i n hn2 (by rw [← hk]; exact hlt))
      have HP := Lib.hid (pathU_low ns i (by omega) (by rw [hlen, ← hk]; exact hlt))
      rw [← hk] at HD
      rw [hlen, ← hk] at HP
      clear hk
      have hdl := depU_le i k
      have hlt' : (i : Int) < (k : Int) := by omega
      go_enter Tryz.func68, Tryz.ntmps68
      go_wp2_with (go_at_call 77; refine (refSplit_any n _ hn2 (by omega)).mono ?_; rintro e w1 ⟨rfl, rfl⟩; rw [← Hk.out])
      refine (IH.out k i A c (ns.take k) _ (by omega) (by omega) hlt hs1).mono ?_
      rintro e w1 ⟨A1, c1, rfl, ho1, he1⟩
      go_wp2_with fail
      refine (refRoot_any n (n - k) _ _ (ns.drop k) _ (by omega) (by omega) (hs2.ext he1)).mono ?_
      rintro e w2 ⟨rfl, he2⟩
      have ho2 := own_ext ho1 he2
      have hE2 := Ext.trans he1 he2
      have hsz := hE2.size
      generalize depU i k = d at *
      go_wp2_with (at_builtin; go_must (refine wpList_app namesE rfl (.tmp 36) (.tmp 41) rfl w.heap.size _ _ _ _ rfl (ho2.alloc _) _ _ _ (ncs [rootU (ns.drop k)]) rfl (Rd.newN _ _ _ _ rfl) (by rw [ncs_length]; rfl) (ncs_one _) ?b1 ?c1 ?d1 w ?w1 ?_))
      case b1 => omega
      case c1 => omega
      case d1 => simp; omega
      case w1 => exact Below.alloc hE2 hsz _
      intro A3 c3 w3 ho3 hw3 hs3
      go_wp2_with fail
      go_ret2
      rw [HD.out, HP.out, ncs_append]
      exact ⟨A3, c3, rfl, ho3, hw3⟩
    · have HD := Lib.hid (depU_high i n hn2 (by rw [← hk]; exact hlt))
      have HP := Lib.hid (pathU_high ns i (by omega) (by rw [hlen, ← hk]; exact hlt))
      rw [← hk] at HD
      rw [hlen, ← hk] at HP
      clear hk
      have hdl := depU_le (i - k) (n - k)
      have hlt' : ¬ (i : Int) < (k : Int) := by omega
      go_enter Tryz.func68, Tryz.ntmps68
      go_wp2_with (go_at_call 77; refine (refSplit_any n _ hn2 (by omega)).mono ?_; rintro e w1 ⟨rfl, rfl⟩; rw [← Hk.out])
      rw [show (i : Int) - (k : Int) = ((i - k : Nat) : Int) from by omega]
      refine (IH.out (n - k) (i - k) _ (c - k) (ns.drop k) _ (by omega) (by omega) (by omega) hs2).mono ?_
      rintro e w1 ⟨A1, c1, rfl, ho1, he1⟩
      go_wp2_with fail
      refine (refRoot_any n k _ _ (ns.take k) _ (by omega) (by omega) (hs1.ext he1)).mono ?_
      rintro e w2 ⟨rfl, he2⟩
      have ho2 := own_ext ho1 he2
      have hE2 := Ext.trans he1 he2
      have hsz := hE2.size
      generalize depU (i - k) (n - k) = d at *
      go_wp2_with (at_builtin; go_must (refine wpList_app namesE rfl (.tmp 53) (.tmp 58) rfl w.heap.size _ _ _ _ rfl (ho2.alloc _) _ _ _ (ncs [rootU (ns.take k)]) rfl (Rd.newN _ _ _ _ rfl) (by rw [ncs_length]; rfl) (ncs_one _) ?b1 ?c1 ?d1 w ?w1 ?_))
      case b1 => omega
      case c1 => omega
      case d1 => simp; omega
      case w1 => exact Below.alloc hE2 hsz _
      intro A3 c3 w3 ho3 hw3 hs3
      go_wp2_with fail
      go_ret2
      rw [HD.out, HP.out, ncs_append]
      exact ⟨A3, c3, rfl, ho3, hw3⟩
theorem own_setCells {base : Nat} {e : TypeId} {size : Nat} {v : Value} {n : Nat} {xs : List Value} {g : Nat} (hg : g < base) (vs : List Value) : ∀ (o : Nat) (w : World), w.ownsRow base e size v n xs → (w.setCells g o vs).ownsRow base e size v n xs := by
  induction vs with
  | nil => intro o w h; exact h
  | cons u r ih => intro o w h; exact ih (o + 1) _ (ownsRow_setCell_below h (a := ⟨g, o, none⟩) hg u)
set_option maxRecDepth 100000 in
set_option maxHeartbeats 2000000 in
theorem climb_any (N : Nat) : ∀ (n i : Nat) (A : Option Addr) (c : Nat) (ns : List UInt64) (w : World), n ≤ N → n ≤ 1000000 → i < n → SlN w A n c ns →
    Calls Tryz.prog 177 #[.slice A n c, .int .i64 (i : Int)] w fun e w' => ∃ A' c', e = .returned (.slice A' (depU i n) c') ∧ w'.ownsRow w.heap.size 23 8 (.slice A' (depU i n) c') (depU i n) (ncs (pathU ns i)) ∧ Ext w w' := by
  induction N with
  | zero => intro n i A c ns w hn _ hi h; omega
  | succ N ih =>
    intro n i A c ns w hn hmx hi h
    by_cases h0 : n ≤ N
    · exact ih n i A c ns w h0 hmx hi h
    by_cases h1 : n = 1
    · subst h1
      have HD := Lib.hid (depU_short i 1 (by omega))
      have HP := Lib.hid (pathU_short ns i (by rw [h.len]; omega))
      go_enter Tryz.func177, Tryz.ntmps177
      go_wp2_with fail
      go_ret
      rw [HD.out, HP.out]
      exact ⟨none, 0, rfl, World.ownsRow_nil _ _ _ _, Ext.refl w⟩
    have hn2 : 2 ≤ n := by omega
    have hlen := h.len
    have hle := h.le
    have hcap := h.cap
    have hsb := spl_bd n hn2
    have n1 : ((n : Int) == 1) = false := by simp; omega
    obtain ⟨k, hk⟩ : ∃ k, k = spl n := ⟨_, rfl⟩
    have Hk := Lib.hid hk
    rw [← hk] at hsb
    have IH := Lib.hid ih
    clear ih
    have hE1 : Ext w (w.alloc (.cells zcs.toArray 23)).drew := ((Ext.refl w).alloc' _).drew'
    have hX : Ext (w.alloc (.cells zcs.toArray 23)).drew (w.alloc (.cells zcs.toArray 23)).drew := Ext.refl _
    have hz : Blk (w.alloc (.cells zcs.toArray 23)).drew w.heap.size 23 zcs.toArray := (Blk.new w _ _).drew
    have hs1 := (h.uptoCap (k := k) (d := k) (by omega) (Nat.le_refl _) (by omega)).ext hE1
    have hs2 := (h.cut (k := k) (by omega) (by omega)).ext hE1
    have b1 : k ≤ n := by omega
    have b2 : k ≤ c := by omega
    have b3 : ¬ c = k := by omega
    by_cases hlt : i < k
    · have HD := Lib.hid (depU_low i n hn2 (by rw [← hk]; exact hlt))
      have HP := Lib.hid (pathU_low ns i (by omega) (by rw [hlen, ← hk]; exact hlt))
      rw [← hk] at HD
      rw [hlen, ← hk] at HP
      clear hk
      have hdl := depU_le i k
      have hlt' : (i : Int) < (k : Int) := by omega
      go_enter Tryz.func177, Tryz.ntmps177
      go_wp2_with (go_at_call 153; refine (split_any n _ hn2 (by omega)).mono ?_; rintro e w1 ⟨rfl, rfl⟩; rw [← Hk.out])
      go_region_held3 (fun _ => True) (trivial) (first | (go_at_call 177; refine (IH.out k i A k (ns.take k) _ (by omega) (by omega) hlt hs1).mono ?_; rintro e w1 ⟨A1, c1, rfl, ho1, he1⟩; have hX := Ext.trans hX he1) | (go_at_call 110; refine (root_any n (n - k) _ _ (ns.drop k) _ (by omega) (by omega) (hs2.ext hX)).mono ?_; rintro e w2 ⟨rfl, he2⟩; have hX := Ext.trans hX he2; have hst := run_storeN (hz.ext hX) (rootU (ns.drop k))))
      have hbR := blkN (hz.ext hX) (rootU (ns.drop k))
      have hoR := own_setCells (g := w.heap.size) (by simp) (nmc (rootU (ns.drop k))).toList 0 w2 (own_ext ho1 he2)
      have hER : Ext w (w2.setCells w.heap.size 0 (nmc (rootU (ns.drop k))).toList) := Below.setCells' (hE1.trans hX) (Nat.le_refl _) _ _
      clear hst hX hz hs1 hs2 hE1 he1 he2 ho1 IH
      generalize depU i k = d at *
      generalize rootU (ns.drop k) = r at *
      generalize w2.setCells w.heap.size 0 (nmc r).toList = w4 at *
      have hsz4 := hbR.lt
      have SS : ∀ w', Ext w4 w' → ∀ i, i < 8 → w'.cell? ⟨w.heap.size, i, none⟩ = some (.int .u8 (nb8 r i)) := fun w' hx => cells8 (hbR.ext hx)
      have HSS := Lib.hid SS
      clear SS
      have hra := (Rd.of_own hoR).ext (((Ext.refl w4).alloc' (.cells (nmc r) 23)).drew')
      have hla := hoR.1
      have hcc := own_cap hoR
      go_wp2_with fail
      go_region_held3 (fun w' => ∀ i, i < 8 → w'.cell? ⟨w.heap.size, i, none⟩ = some (.int .u8 (nb8 r i))) (first | exact HSS.out _ (Ext.refl w4).drew' | exact HSS.out _ ((Ext.refl w4).alloc' _).drew' | exact HSS.out _ (Ext.trans ((Ext.refl w4).alloc' _).drew' hw6)) ((refine step_appFull namesE rfl (.tmp 44) (.tmp 46) rfl A1 d _ (by rfl) hra hla (some ⟨w4.heap.size, 0, none⟩) 1 1 (ncs [r]) (by rfl) (Rd.newN _ _ _ _ rfl) (by rw [ncs_length]; rfl) (by omega) (by omega) (by omega) ?_; intro A6 c6 w6 ho6 hw6))
      go_wp2_with fail
      go_ret
      rw [HD.out, HP.out, ncs_append]
      exact ⟨A6, c6, rfl, own_mono ho6 (by simp; omega), hER.trans (Ext.trans ((Ext.refl w4).alloc' _).drew' hw6)⟩
    · have HD := Lib.hid (depU_high i n hn2 (by rw [← hk]; exact hlt))
      have HP := Lib.hid (pathU_high ns i (by omega) (by rw [hlen, ← hk]; exact hlt))
      rw [← hk] at HD
      rw [hlen, ← hk] at HP
      clear hk
      have hdl := depU_le (i - k) (n - k)
      have hlt' : ¬ (i : Int) < (k : Int) := by omega
      have hsub : IntKind.i64.wrap ((i : Int) - (k : Int)) = ((i - k : Nat) : Int) := by rw [IntKind.wrap_i64]; omega
      go_enter Tryz.func177, Tryz.ntmps177
      go_wp2_with (go_at_call 153; refine (split_any n _ hn2 (by omega)).mono ?_; rintro e w1 ⟨rfl, rfl⟩; rw [← Hk.out])
      go_region_held3 (fun _ => True) (trivial) (first | (go_at_call 177; refine (IH.out (n - k) (i - k) _ (c - k) (ns.drop k) _ (by omega) (by omega) (by omega) hs2).mono ?_; rintro e w1 ⟨A1, c1, rfl, ho1, he1⟩; have hX := Ext.trans hX he1) | (go_at_call 110; refine (root_any n k _ _ (ns.take k) _ (by omega) (by omega) (hs1.ext hX)).mono ?_; rintro e w2 ⟨rfl, he2⟩; have hX := Ext.trans hX he2; have hst := run_storeN (hz.ext hX) (rootU (ns.take k))))
      have hbR := blkN (hz.ext hX) (rootU (ns.take k))
      have hoR := own_setCells (g := w.heap.size) (by simp) (nmc (rootU (ns.take k))).toList 0 w2 (own_ext ho1 he2)
      have hER : Ext w (w2.setCells w.heap.size 0 (nmc (rootU (ns.take k))).toList) := Below.setCells' (hE1.trans hX) (Nat.le_refl _) _ _
      clear hst hX hz hs1 hs2 hE1 he1 he2 ho1 IH
      generalize depU (i - k) (n - k) = d at *
      generalize rootU (ns.take k) = r at *
      generalize w2.setCells w.heap.size 0 (nmc r).toList = w4 at *
      have hsz4 := hbR.lt
      have SS : ∀ w', Ext w4 w' → ∀ i, i < 8 → w'.cell? ⟨w.heap.size, i, none⟩ = some (.int .u8 (nb8 r i)) := fun w' hx => cells8 (hbR.ext hx)
      have HSS := Lib.hid SS
      clear SS
      have hra := (Rd.of_own hoR).ext (((Ext.refl w4).alloc' (.cells (nmc r) 23)).drew')
      have hla := hoR.1
      have hcc := own_cap hoR
      go_wp2_with fail
      go_region_held3 (fun w' => ∀ i, i < 8 → w'.cell? ⟨w.heap.size, i, none⟩ = some (.int .u8 (nb8 r i))) (first | exact HSS.out _ (Ext.refl w4).drew' | exact HSS.out _ ((Ext.refl w4).alloc' _).drew' | exact HSS.out _ (Ext.trans ((Ext.refl w4).alloc' _).drew' hw6)) ((refine step_appFull namesE rfl (.tmp 44) (.tmp 46) rfl A1 d _ (by rfl) hra hla (some ⟨w4.heap.size, 0, none⟩) 1 1 (ncs [r]) (by rfl) (Rd.newN _ _ _ _ rfl) (by rw [ncs_length]; rfl) (by omega) (by omega) (by omega) ?_; intro A6 c6 w6 ho6 hw6))
      go_wp2_with fail
      go_ret
      rw [HD.out, HP.out, ncs_append]
      exact ⟨A6, c6, rfl, own_mono ho6 (by simp; omega), hER.trans (Ext.trans ((Ext.refl w4).alloc' _).drew' hw6)⟩
set_option maxHeartbeats 1000000 in
theorem path_any (n i : Nat) (A : Option Addr) (c : Nat) (ns : List UInt64) (w : World) (hm : n ≤ 1000000) (hi : i < n) (h : SlN w A n c ns) :
    Calls Tryz.prog 149 #[.slice A n c, .int .i64 (i : Int)] w fun e w' => ∃ A' c', e = .returned (.tuple #[.slice A' (depU i n) c', .bool true]) ∧ w'.ownsRow w.heap.size 23 8 (.slice A' (depU i n) c') (depU i n) (ncs (pathU ns i)) ∧ Ext w w' := by
  go_enter Tryz.func149, Tryz.ntmps149
  go_wp2_with (first | (go_at_call 161; refine (depth_in i n _ hi hm).mono ?_; rintro e w1 ⟨rfl, rfl⟩) | (go_at_call 177; refine (climb_any n n i A c ns _ (Nat.le_refl _) hm hi h).mono ?_; rintro e w1 ⟨A1, c1, rfl, ho1, he1⟩))
  go_ret2
  exact ⟨A1, c1, rfl, ho1, he1⟩
end Go.Proofs.YtcfmlgbocdjabaaGreat
namespace Go.Proofs.YtcfmlgbocdjabaaGreat
open Go.RowKit
set_option linter.unusedVariables false
set_option linter.unusedSimpArgs false
attribute [local go_sem ↓] Go.wp_at_zero Go.wp_at_succ

theorem last_take (ns : List UInt64) (d : Nat) (h : ns.length = d + 1) : ns.dropLast = ns.take d ∧ ns.getLastD 0 = nthN ns d := by
  constructor
  · rw [List.dropLast_eq_take, h]; rfl
  · unfold nthN
    rcases List.eq_nil_or_concat ns with rfl | ⟨l, x, rfl⟩
    · simp at h
    · simp only [List.concat_eq_append, List.length_append, List.length_cons, List.length_nil, Nat.zero_add, Nat.add_right_cancel_iff] at h
      subst h
      rw [List.concat_eq_append, List.getLastD_concat]; simp
set_option maxRecDepth 100000 in
set_option maxHeartbeats 1000000 in
theorem computed_any (N : Nat) : ∀ (leaf : UInt64) (n i m : Nat) (A : Option Addr) (c : Nat) (ns : List UInt64) (w : World), n ≤ N → n ≤ 1000000 → i < n → m = depU i n → SlN w A m c ns →
    Calls Tryz.prog 162 #[.agg (nmc leaf), .int .i64 (i : Int), .int .i64 (n : Int), .slice A m c] w fun e w' => e = .returned (.agg (nmc (compU leaf i n ns))) ∧ Ext w w' := by
  induction N with
  | zero => intro leaf n i m A c ns w hn _ hi; omega
  | succ N ih =>
    intro leaf n i m A c ns w hn hmx hi hm h
    by_cases h0 : n ≤ N
    · exact ih leaf n i m A c ns w h0 hmx hi hm h
    have HM := Lib.hid hm
    clear hm
    by_cases h1 : n = 1
    · subst h1
      have HC := Lib.hid (compU_short leaf i 1 ns (by omega))
      have hrl := rangeN ((Blk.new w 23 (nmc leaf)).alloc (.cells zcs.toArray 23))
      go_enter Tryz.func162, Tryz.ntmps162
      go_wp2_with (refine wpList_loadN rfl (.tmp 4) rfl w.heap.size 0 rfl leaf hrl ?_)
      refine (single_any _ _).mono ?_
      rintro e w3 ⟨rfl, he3⟩
      have hb0 : Blk w3 (w.heap.size + 1) 23 zcs.toArray := (Blk.newAt _ _ _ _ (by simp)).ext he3
      go_wp2_with (with_reducible refine wpList_storeN rfl _ _ rfl (w.heap.size + 1) 0 _ rfl rfl (thereZ hb0) ?_)
      refine bodyPost_ret (v := .agg (nmc (leafU leaf))) (retN rfl _ _ (w.heap.size + 1) _ rfl (blkN hb0 _)) rfl ⟨by rw [HC.out], Below.setCells' ((((Ext.refl w).alloc' _).alloc' _).trans he3) (by omega) _ _⟩
    have hn2 : 2 ≤ n := by omega
    have hsb := spl_bd n hn2
    have n1 : ((n : Int) == 1) = false := by simp; omega
    obtain ⟨k, hk⟩ : ∃ k, k = spl n := ⟨_, rfl⟩
    have Hk := Lib.hid hk
    rw [← hk] at hsb
    have IH := Lib.hid ih
    clear ih
    obtain ⟨d, rfl⟩ : ∃ d, m = d + 1 := by
      have := HM.out
      by_cases hlt : i < spl n
      · rw [depU_low i n hn2 hlt] at this; exact ⟨_, this⟩
      · rw [depU_high i n hn2 hlt] at this; exact ⟨_, this⟩
    have hdb : d + 1 ≤ n := by have := HM.out; have := depU_le i n; omega
    obtain ⟨b, o, rfl, hra, hbl⟩ := h.at (by omega)
    have hlen := h.len
    have hle := h.le
    have hcap := h.cap
    have hlt2 := last_take ns d hlen
    have hE1 : Ext w ((w.alloc (.cells (nmc leaf) 23)).alloc (.cells zcs.toArray 23)).drew := (((Ext.refl w).alloc' _).alloc' _).drew'
    have hX : Ext ((w.alloc (.cells (nmc leaf) 23)).alloc (.cells zcs.toArray 23)).drew ((w.alloc (.cells (nmc leaf) 23)).alloc (.cells zcs.toArray 23)).drew := Ext.refl _
    have hz : Blk ((w.alloc (.cells (nmc leaf) 23)).alloc (.cells zcs.toArray 23)).drew (w.heap.size + 1) 23 zcs.toArray := (Blk.newAt _ _ _ _ (by simp)).drew
    have hlf : Blk ((w.alloc (.cells (nmc leaf) 23)).alloc (.cells zcs.toArray 23)).drew w.heap.size 23 (nmc leaf) := ((Blk.new w _ _).alloc _).drew
    have hnm := rangeAt_keep (name_nth hra (k := d) (by omega)) (hE1.block b hbl)
    have hbl1 := Nat.lt_of_lt_of_le hbl hE1.size
    have SS : ∀ w', Below (w.heap.size + 1) ((w.alloc (.cells (nmc leaf) 23)).alloc (.cells zcs.toArray 23)).drew w' → (∀ i, i < 8 → w'.cell? ⟨w.heap.size, i, none⟩ = some (.int .u8 (nb8 leaf i))) ∧ (∀ i, i < 8 → w'.cell? ⟨b, o + d * 8 + i, none⟩ = some (.int .u8 (nb8 (nthN ns d) i))) ∧ w'.cell? ⟨b, o + d * 8, none⟩ = some (.int .u8 (nb8 (nthN ns d) 0)) := fun w' hx =>
      ⟨cells8 (hlf.below hx (by omega)), cells8At (rangeAt_keep hnm (hx.block b (by omega))), cells8At (rangeAt_keep hnm (hx.block b (by omega))) 0 (by omega)⟩
    have HB : w.heap.size + 1 ≤ ((w.alloc (.cells (nmc leaf) 23)).alloc (.cells zcs.toArray 23)).drew.heap.size := by simp
    have HSS := Lib.hid SS
    clear SS hnm
    have hs1 := (h.upto (k := d) (by omega)).ext hE1
    have b1 : (d : Int) < (d : Int) + 1 := by omega
    have b2 : d ≤ c := by omega
    by_cases hlt : i < k
    · have HC := Lib.hid (compU_low leaf i n ns hn2 (by rw [← hk]; exact hlt))
      rw [← hk, hlt2.1, hlt2.2] at HC
      have hdk : d = depU i k := by have := HM.out; rw [depU_low i n hn2 (by rw [← hk]; exact hlt), ← hk] at this; omega
      have Hdk := Lib.hid hdk
      clear hk hlt2 hdk
      have hlt' : (i : Int) < (k : Int) := by omega
      go_enter Tryz.func162, Tryz.ntmps162
      go_wp2_with (go_at_call 153; refine (split_any n _ hn2 (by omega)).mono ?_; rintro e w1 ⟨rfl, rfl⟩; rw [← Hk.out])
      go_region_held3 (fun w' => (∀ i, i < 8 → w'.cell? ⟨w.heap.size, i, none⟩ = some (.int .u8 (nb8 leaf i))) ∧ (∀ i, i < 8 → w'.cell? ⟨b, o + d * 8 + i, none⟩ = some (.int .u8 (nb8 (nthN ns d) i))) ∧ w'.cell? ⟨b, o + d * 8, none⟩ = some (.int .u8 (nb8 (nthN ns d) 0))) (first | with_reducible exact HSS.out _ (Below.setCells' (Below.mono hX HB) (Nat.le_refl _) _ _) | with_reducible exact HSS.out _ (Below.mono hX HB)) (first | (go_at_call 162; refine (IH.out leaf k i d _ c (ns.take d) _ (by omega) (by omega) hlt Hdk.out (hs1.ext hX)).mono ?_; rintro e w1 ⟨rfl, he1⟩; have hX := Ext.trans hX he1) | (go_at_call 154; refine (pair_any 18 _ _ _).mono ?_; rintro e w2 ⟨rfl, he2⟩; have hX := Ext.trans hX he2; have hst := run_storeN (hz.ext hX) (pairU 18 (compU leaf i k (ns.take d)) (nthN ns d))))
      go_wp2_with fail
      refine bodyPost_ret (v := .agg (nmc (pairU 18 (compU leaf i k (ns.take d)) (nthN ns d)))) (retN rfl _ _ (w.heap.size + 1) _ rfl (blkN (hz.ext hX) _)) rfl ⟨by rw [HC.out], Below.setCells' (hE1.trans hX) (by omega) _ _⟩
    · have HC := Lib.hid (compU_high leaf i n ns hn2 (by rw [← hk]; exact hlt))
      rw [← hk, hlt2.1, hlt2.2] at HC
      have hdk : d = depU (i - k) (n - k) := by have := HM.out; rw [depU_high i n hn2 (by rw [← hk]; exact hlt), ← hk] at this; omega
      have Hdk := Lib.hid hdk
      clear hk hlt2 hdk
      have hlt' : ¬ (i : Int) < (k : Int) := by omega
      have hsub : IntKind.i64.wrap ((i : Int) - (k : Int)) = ((i - k : Nat) : Int) := by rw [IntKind.wrap_i64]; omega
      have hsub2 : IntKind.i64.wrap ((n : Int) - (k : Int)) = ((n - k : Nat) : Int) := by rw [IntKind.wrap_i64]; omega
      go_enter Tryz.func162, Tryz.ntmps162
      go_wp2_with (go_at_call 153; refine (split_any n _ hn2 (by omega)).mono ?_; rintro e w1 ⟨rfl, rfl⟩; rw [← Hk.out])
      go_region_held3 (fun w' => (∀ i, i < 8 → w'.cell? ⟨w.heap.size, i, none⟩ = some (.int .u8 (nb8 leaf i))) ∧ (∀ i, i < 8 → w'.cell? ⟨b, o + d * 8 + i, none⟩ = some (.int .u8 (nb8 (nthN ns d) i))) ∧ w'.cell? ⟨b, o + d * 8, none⟩ = some (.int .u8 (nb8 (nthN ns d) 0))) (first | with_reducible exact HSS.out _ (Below.setCells' (Below.mono hX HB) (Nat.le_refl _) _ _) | with_reducible exact HSS.out _ (Below.mono hX HB)) (first | (go_at_call 162; refine (IH.out leaf (n - k) (i - k) d _ c (ns.take d) _ (by omega) (by omega) (by omega) Hdk.out (hs1.ext hX)).mono ?_; rintro e w1 ⟨rfl, he1⟩; have hX := Ext.trans hX he1) | (go_at_call 154; refine (pair_any 18 _ _ _).mono ?_; rintro e w2 ⟨rfl, he2⟩; have hX := Ext.trans hX he2; have hst := run_storeN (hz.ext hX) (pairU 18 (nthN ns d) (compU leaf (i - k) (n - k) (ns.take d)))))
      go_wp2_with fail
      refine bodyPost_ret (v := .agg (nmc (pairU 18 (nthN ns d) (compU leaf (i - k) (n - k) (ns.take d))))) (retN rfl _ _ (w.heap.size + 1) _ rfl (blkN (hz.ext hX) _)) rfl ⟨by rw [HC.out], Below.setCells' (hE1.trans hX) (by omega) _ _⟩
set_option maxHeartbeats 1000000 in
theorem follow_yes (leaf : UInt64) (n i m : Nat) (A : Option Addr) (c : Nat) (ns : List UInt64) (w : World) (hmx : n ≤ 1000000) (hi : i < n) (hm : m = depU i n) (h : SlN w A m c ns) :
    Calls Tryz.prog 119 #[.agg (nmc leaf), .int .i64 (i : Int), .int .i64 (n : Int), .slice A m c] w fun e w' => e = .returned (.tuple #[.agg (nmc (compU leaf i n ns)), .bool true]) ∧ Ext w w' := by
  have hrl := rangeN ((Blk.new w 23 (nmc leaf)).alloc (.cells zcs.toArray 23))
  have hs := h.ext (((Ext.refl w).alloc' (.cells (nmc leaf) 23)).alloc' (.cells zcs.toArray 23))
  have HM := Lib.hid hm
  clear hm
  have hq : ((m : Int) != (m : Int)) = false := by simp
  go_enter Tryz.func119, Tryz.ntmps119
  go_wp2_with (first | (go_at_call 161; refine (depth_in i n _ hi hmx).mono ?_; rintro e w1 ⟨rfl, rfl⟩; rw [← HM.out]) | (refine wpList_loadN rfl (.tmp 4) rfl w.heap.size 0 rfl leaf hrl ?_))
  refine (computed_any n leaf n i m A c ns _ (Nat.le_refl _) hmx hi HM.out hs).mono ?_
  rintro e w3 ⟨rfl, he3⟩
  have hb0 : Blk w3 (w.heap.size + 1) 23 zcs.toArray := (Blk.newAt _ _ _ _ (by simp)).ext he3
  go_wp2_with (with_reducible refine wpList_storeN rfl _ _ rfl (w.heap.size + 1) 0 _ rfl rfl (thereZ hb0) ?_)
  refine bodyPost_ret (v := .tuple #[.agg (nmc (compU leaf i n ns)), .bool true]) (retNV rfl _ _ (w.heap.size + 1) _ _ rfl rfl (blkN hb0 _)) rfl ⟨rfl, Below.setCells' ((((Ext.refl w).alloc' _).alloc' _).trans he3) (by omega) _ _⟩
end Go.Proofs.YtcfmlgbocdjabaaGreat
namespace Go.Proofs.YtcfmlgbocdjabaaGreat
open Go.RowKit
set_option linter.unusedVariables false
set_option linter.unusedSimpArgs false
attribute [local go_sem ↓] Go.wp_at_zero Go.wp_at_succ

theorem run_storeNewN (w : World) (g : Nat) (hg : w.heap.size = g) (r : UInt64) : (storeCells ⟨g, 0, none⟩ (nmc r).toList).run Tryz.prog (w.alloc (.cells zcs.toArray 23)) = .ok () (w.alloc (.cells (nmc r) 23)) := by
  subst hg
  rw [run_storeN (Blk.new w _ _) r, setCells_whole _ _ _ _ (by rw [nmc_size]; rfl)]
theorem run_storeNewD (w : World) (g : Nat) (hg : w.heap.size = g) (r : UInt64) : (storeCells ⟨g, 0, none⟩ (nmc r).toList).run Tryz.prog (w.alloc (.cells zcs.toArray 23)).drew = .ok () (w.alloc (.cells (nmc r) 23)).drew := run_storeNewN w.drew g hg r
theorem near2 {w4 w' : World} {g : Nat} (h : Ext w4 w') : ∀ b, b ≠ g → b < w4.heap.size → w'.heap[b]? = w4.heap[b]? := fun b _ hb => h.block b hb
theorem heap_setCells_other (w : World) (g : Nat) (vs : List Value) : ∀ (o b : Nat), b ≠ g → (w.setCells g o vs).heap[b]? = w.heap[b]? := by
  induction vs generalizing w with
  | nil => intro o b _; rfl
  | cons v r ih => intro o b hb; rw [World.setCells, ih _ (o + 1) b hb, Below.heap_setCell _ _ _ _ hb]
theorem far2 {w4 w' : World} {g o : Nat} {vs : List Value} (h : Ext w4 w') : ∀ b, b ≠ g → b < w4.heap.size → (w'.setCells g o vs).heap[b]? = w4.heap[b]? := fun b hg hb => (heap_setCells_other w' g vs o b hg).trans (h.block b hb)
set_option maxRecDepth 100000 in
set_option maxHeartbeats 1000000 in
theorem refFollow_any (N : Nat) : ∀ (leaf : UInt64) (n i m : Nat) (A : Option Addr) (c : Nat) (ns : List UInt64) (w : World), n ≤ N → n ≤ 1000000 → i < n → m = depU i n → SlN w A m c ns →
    Calls Tryz.prog 125 #[.agg (nmc leaf), .int .i64 (i : Int), .int .i64 (n : Int), .slice A m c] w fun e w' => e = .returned (.agg (nmc (compU leaf i n ns))) ∧ Ext w w' := by
  induction N with
  | zero => intro leaf n i m A c ns w hn _ hi; omega
  | succ N ih =>
    intro leaf n i m A c ns w hn hmx hi hm h
    by_cases h0 : n ≤ N
    · exact ih leaf n i m A c ns w h0 hmx hi hm h
    have HM := Lib.hid hm
    clear hm
    by_cases h1 : n = 1
    · subst h1
      have HC := Lib.hid (compU_short leaf i 1 ns (by omega))
      go_enter Tryz.func125, Tryz.ntmps125
      go_wp2_with fail
      refine (refTagged_any 17 _ _ _ (nmb leaf) _ ?h1 (by omega)).mono ?_
      case h1 => exact SlB.blkN ((Blk.new w _ (nmc leaf)).alloc _)
      rintro e w3 ⟨rfl, he3⟩
      have hb0 : Blk w3 (w.heap.size + 1) 23 zcs.toArray := (Blk.newAt _ _ _ _ (by simp)).ext he3
      go_wp2_with (with_reducible refine wpList_storeN rfl _ _ rfl (w.heap.size + 1) 0 _ rfl rfl (thereZ hb0) ?_)
      refine bodyPost_ret (v := .agg (nmc (leafU leaf))) (retN rfl _ _ (w.heap.size + 1) _ rfl (blkN hb0 _)) rfl ⟨by rw [HC.out], Below.setCells' ((((Ext.refl w).alloc' _).alloc' _).trans he3) (by omega) _ _⟩
    have hn2 : 2 ≤ n := by omega
    have hsb := spl_bd n hn2
    have n1 : ((n : Int) == 1) = false := by simp; omega
    obtain ⟨k, hk⟩ : ∃ k, k = spl n := ⟨_, rfl⟩
    have Hk := Lib.hid hk
    rw [← hk] at hsb
    have IH := Lib.hid ih
    clear ih
    obtain ⟨d, rfl⟩ : ∃ d, m = d + 1 := by
      have := HM.out
      by_cases hlt : i < spl n
      · rw [depU_low i n hn2 hlt] at this; exact ⟨_, this⟩
      · rw [depU_high i n hn2 hlt] at this; exact ⟨_, this⟩
    have hdb : d + 1 ≤ n := by have := HM.out; have := depU_le i n; omega
    obtain ⟨b, o, rfl, hra, hbl⟩ := h.at (by omega)
    have hlen := h.len
    have hle := h.le
    have hcap := h.cap
    have hlt2 := last_take ns d hlen
    have hnm := name_nth hra (k := d) (by omega)
    have SS : ∀ w', Ext w w' → (∀ i, i < 8 → w'.cell? ⟨b, o + d * 8 + i, none⟩ = some (.int .u8 (nb8 (nthN ns d) i))) ∧ w'.cell? ⟨b, o + d * 8, none⟩ = some (.int .u8 (nb8 (nthN ns d) 0)) := fun w' hx =>
      ⟨cells8At (rangeAt_keep hnm (hx.block b hbl)), cells8At (rangeAt_keep hnm (hx.block b hbl)) 0 (by omega)⟩
    have HSS := Lib.hid SS
    clear SS hnm
    have b1 : (d : Int) < (d : Int) + 1 := by omega
    have b2 : d ≤ c := by omega
    have wd : IntKind.i64.wrap ((d : Int) + 1 - 1) = (d : Int) := by rw [IntKind.wrap_i64]; omega
    have wd2 : IntKind.i64.wrap (d : Int) = (d : Int) := by rw [IntKind.wrap_i64]; omega
    go_enter Tryz.func125, Tryz.ntmps125
    go_wp2_with fail
    have hX0 : Ext w ((w.alloc (.cells (nmc leaf) 23)).alloc (.cells zcs.toArray 23)).drew := (((Ext.refl w).alloc' _).alloc' _).drew'
    have hst1 := run_storeNewD ((w.alloc (.cells (nmc leaf) 23)).alloc (.cells zcs.toArray 23)) (w.heap.size + 1 + 1) (by simp) (nthN ns d)
    have hXa : Ext w (((w.alloc (.cells (nmc leaf) 23)).alloc (.cells zcs.toArray 23)).alloc (.cells zcs.toArray 23)).drew := ((((Ext.refl w).alloc' _).alloc' _).alloc' _).drew'
    have hXb : Ext w (((w.alloc (.cells (nmc leaf) 23)).alloc (.cells zcs.toArray 23)).alloc (.cells (nmc (nthN ns d)) 23)).drew := ((((Ext.refl w).alloc' _).alloc' _).alloc' _).drew'
    go_region_held3 (fun w' => (∀ i, i < 8 → w'.cell? ⟨b, o + d * 8 + i, none⟩ = some (.int .u8 (nb8 (nthN ns d) i))) ∧ w'.cell? ⟨b, o + d * 8, none⟩ = some (.int .u8 (nb8 (nthN ns d) 0))) (first | (exact HSS.out _ hX0; done) | (exact HSS.out _ hXa; done) | (exact HSS.out _ hXb; done)) (first | (go_at_call 77; refine (refSplit_any n _ hn2 (by omega)).mono ?_; rintro e w1 ⟨rfl, rfl⟩; rw [← Hk.out]))
    all_goals
      rw [← Hk.out]
      have hE4 := hXb
      have hlf : Blk (((w.alloc (.cells (nmc leaf) 23)).alloc (.cells zcs.toArray 23)).alloc (.cells (nmc (nthN ns d)) 23)).drew w.heap.size 23 (nmc leaf) := (((Blk.new w _ _).alloc _).alloc _).drew
      have hz : Blk (((w.alloc (.cells (nmc leaf) 23)).alloc (.cells zcs.toArray 23)).alloc (.cells (nmc (nthN ns d)) 23)).drew (w.heap.size + 1) 23 zcs.toArray := ((Blk.newAt _ _ _ _ (by simp)).alloc _).drew
      have hup : Blk (((w.alloc (.cells (nmc leaf) 23)).alloc (.cells zcs.toArray 23)).alloc (.cells (nmc (nthN ns d)) 23)).drew (w.heap.size + 1 + 1) 23 (nmc (nthN ns d)) := (Blk.newAt _ _ _ _ (by simp)).drew
      have hs1 := (h.upto (k := d) (by omega)).ext hE4
      clear hst1 hXa hXb hX0 HSS
      generalize (((w.alloc (.cells (nmc leaf) 23)).alloc (.cells zcs.toArray 23)).alloc (.cells (nmc (nthN ns d)) 23)).drew = w4 at *
      have hX : Ext w4 w4.drew := (Ext.refl w4).drew'
      have SS2 : ∀ w' : World, (∀ b, b ≠ w.heap.size + 1 → b < w4.heap.size → w'.heap[b]? = w4.heap[b]?) → (∀ i, i < 8 → w'.cell? ⟨w.heap.size, i, none⟩ = some (.int .u8 (nb8 leaf i))) ∧ (∀ i, i < 8 → w'.cell? ⟨w.heap.size + 1 + 1, i, none⟩ = some (.int .u8 (nb8 (nthN ns d) i))) := fun w' hx =>
        ⟨cells8 (w := w') (show Blk w' _ _ _ from (hx _ (by omega) hlf.lt).trans hlf), cells8 (w := w') (show Blk w' _ _ _ from (hx _ (by omega) hup.lt).trans hup)⟩
      have HS2 := Lib.hid SS2
      clear SS2
      by_cases hlt : i < k
      · have HC := Lib.hid (compU_low leaf i n ns hn2 (by rw [← hk]; exact hlt))
        rw [← hk, hlt2.1, hlt2.2] at HC
        have hdk : d = depU i k := by have := HM.out; rw [depU_low i n hn2 (by rw [← hk]; exact hlt), ← hk] at this; omega
        have Hdk := Lib.hid hdk
        clear hk hlt2 hdk
        have hlt' : (i : Int) < (k : Int) := by omega
        go_wp2_with fail
        go_region_held3 (fun w' => (∀ i, i < 8 → w'.cell? ⟨w.heap.size, i, none⟩ = some (.int .u8 (nb8 leaf i))) ∧ (∀ i, i < 8 → w'.cell? ⟨w.heap.size + 1 + 1, i, none⟩ = some (.int .u8 (nb8 (nthN ns d) i)))) (first | with_reducible exact HS2.out _ (far2 hX) | with_reducible exact HS2.out _ (near2 hX)) (first | (go_at_call 125; refine (IH.out leaf k i d _ c (ns.take d) _ (by omega) (by omega) hlt Hdk.out (hs1.ext hX)).mono ?_; rintro e w1 ⟨rfl, he1⟩; have hX := Ext.trans hX he1) | (go_at_call 78; refine (refPair_any 18 _ _ _).mono ?_; rintro e w2 ⟨rfl, he2⟩; have hX := Ext.trans hX he2; have hst := run_storeN (hz.ext hX) (pairU 18 (compU leaf i k (ns.take d)) (nthN ns d))))
        go_wp2_with fail
        refine bodyPost_ret (v := .agg (nmc (pairU 18 (compU leaf i k (ns.take d)) (nthN ns d)))) (retN rfl _ _ (w.heap.size + 1) _ rfl (blkN (hz.ext hX) _)) rfl ⟨by rw [HC.out], Below.setCells' (hE4.trans hX) (by omega) _ _⟩
      · have HC := Lib.hid (compU_high leaf i n ns hn2 (by rw [← hk]; exact hlt))
        rw [← hk, hlt2.1, hlt2.2] at HC
        have hdk : d = depU (i - k) (n - k) := by have := HM.out; rw [depU_high i n hn2 (by rw [← hk]; exact hlt), ← hk] at this; omega
        have Hdk := Lib.hid hdk
        clear hk hlt2 hdk
        have hlt' : ¬ (i : Int) < (k : Int) := by omega
        have hsub : IntKind.i64.wrap ((i : Int) - (k : Int)) = ((i - k : Nat) : Int) := by rw [IntKind.wrap_i64]; omega
        have hsub2 : IntKind.i64.wrap ((n : Int) - (k : Int)) = ((n - k : Nat) : Int) := by rw [IntKind.wrap_i64]; omega
        go_wp2_with fail
        go_region_held3 (fun w' => (∀ i, i < 8 → w'.cell? ⟨w.heap.size, i, none⟩ = some (.int .u8 (nb8 leaf i))) ∧ (∀ i, i < 8 → w'.cell? ⟨w.heap.size + 1 + 1, i, none⟩ = some (.int .u8 (nb8 (nthN ns d) i)))) (first | with_reducible exact HS2.out _ (far2 hX) | with_reducible exact HS2.out _ (near2 hX)) (first | (go_at_call 125; refine (IH.out leaf (n - k) (i - k) d _ c (ns.take d) _ (by omega) (by omega) (by omega) Hdk.out (hs1.ext hX)).mono ?_; rintro e w1 ⟨rfl, he1⟩; have hX := Ext.trans hX he1) | (go_at_call 78; refine (refPair_any 18 _ _ _).mono ?_; rintro e w2 ⟨rfl, he2⟩; have hX := Ext.trans hX he2; have hst := run_storeN (hz.ext hX) (pairU 18 (nthN ns d) (compU leaf (i - k) (n - k) (ns.take d)))))
        go_wp2_with fail
        refine bodyPost_ret (v := .agg (nmc (pairU 18 (nthN ns d) (compU leaf (i - k) (n - k) (ns.take d))))) (retN rfl _ _ (w.heap.size + 1) _ rfl (blkN (hz.ext hX) _)) rfl ⟨by rw [HC.out], Below.setCells' (hE4.trans hX) (by omega) _ _⟩
set_option maxHeartbeats 1000000 in
theorem refFollow_yes (leaf : UInt64) (n i m : Nat) (A : Option Addr) (c : Nat) (ns : List UInt64) (w : World) (hmx : n ≤ 1000000) (hi : i < n) (hm : m = depU i n) (h : SlN w A m c ns) :
    Calls Tryz.prog 84 #[.agg (nmc leaf), .int .i64 (i : Int), .int .i64 (n : Int), .slice A m c] w fun e w' => e = .returned (.tuple #[.agg (nmc (compU leaf i n ns)), .bool true]) ∧ Ext w w' := by
  have hrl := rangeN ((Blk.new w 23 (nmc leaf)).alloc (.cells zcs.toArray 23))
  have hs := h.ext (((Ext.refl w).alloc' (.cells (nmc leaf) 23)).alloc' (.cells zcs.toArray 23))
  have HM := Lib.hid hm
  clear hm
  have hq : ((m : Int) != (m : Int)) = false := by simp
  go_enter Tryz.func84, Tryz.ntmps84
  go_wp2_with (first | (go_at_call 124; refine (refDepth_in i n _ hi hmx).mono ?_; rintro e w1 ⟨rfl, rfl⟩; rw [← HM.out]) | (refine wpList_loadN rfl (.tmp 4) rfl w.heap.size 0 rfl leaf hrl ?_))
  refine (refFollow_any n leaf n i m A c ns _ (Nat.le_refl _) hmx hi HM.out hs).mono ?_
  rintro e w3 ⟨rfl, he3⟩
  have hb0 : Blk w3 (w.heap.size + 1) 23 zcs.toArray := (Blk.newAt _ _ _ _ (by simp)).ext he3
  go_wp2_with (with_reducible refine wpList_storeN rfl _ _ rfl (w.heap.size + 1) 0 _ rfl rfl (thereZ hb0) ?_)
  refine bodyPost_ret (v := .tuple #[.agg (nmc (compU leaf i n ns)), .bool true]) (retNV rfl _ _ (w.heap.size + 1) _ _ rfl rfl (blkN hb0 _)) rfl ⟨rfl, Below.setCells' ((((Ext.refl w).alloc' _).alloc' _).trans he3) (by omega) _ _⟩
end Go.Proofs.YtcfmlgbocdjabaaGreat
