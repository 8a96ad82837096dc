import Derived.Test.YtengpfpeeihaoaaMrk3
namespace Go.Proofs.Ytengpfpeeihaoaa
open Go.RowKit
set_option linter.unusedVariables false
set_option linter.unusedSimpArgs false
attribute [local go_sem ↓] Go.wp_at_zero Go.wp_at_succ

theorem depU_le (i n : Nat) : depU i n ≤ n := by
  induction n using Nat.strongRecOn generalizing i with
  | _ n ih =>
    by_cases h : 2 ≤ n
    · have hb := spl_bd n h
      by_cases hi : i < spl n
      · rw [depU_low i n h hi]; have := ih (spl n) hb.2 i; omega
      · rw [depU_high i n h hi]; have := ih (n - spl n) (by omega) (i - spl n); omega
    · rw [depU_short i n h]; omega
set_option maxRecDepth 100000 in
set_option maxHeartbeats 1000000 in
theorem refPath_any (N : Nat) : ∀ (n i : Nat) (A : Option Addr) (c : Nat) (ns : List UInt64) (w : World), n ≤ N → n ≤ 1000000 → i < n → SlN w A n c ns →
    Calls Try.prog 54 #[.slice A n c, .int .i64 (i : Int)] w fun e w' => ∃ A' c', e = .returned (.tuple #[.slice A' (depU i n) c', .bool true]) ∧ w'.ownsRow w.heap.size 61 8 (.slice A' (depU i n) c') (depU i n) (ncs (pathU ns i)) ∧ Ext w w' := by
  induction N with
  | zero => intro n i A c ns w hn _ hi h; omega
  | succ N ih =>
    intro n i A c ns w hn hmx hi h
    by_cases h0 : n ≤ N
    · exact ih n i A c ns w h0 hmx hi h
    have e0 : decide ((i : Int) < 0) = false := decide_eq_false (by omega)
    have e1 : decide (n ≤ i) = false := decide_eq_false (by omega)
    by_cases h1 : n = 1
    · subst h1
      have HD := Lib.hid (depU_short i 1 (by omega))
      have HP := Lib.hid (pathU_short ns i (by rw [h.len]; omega))
      go_enter Try.func54, Try.ntmps54
      go_wp2_with fail
      go_ret2
      rw [HD.out, HP.out]
      exact ⟨none, 0, rfl, World.ownsRow_nil _ _ _ _, Ext.refl w⟩
    have hn2 : 2 ≤ n := by omega
    have hlen := h.len
    have hle := h.le
    have hcap := h.cap
    have hsb := spl_bd n hn2
    have n1 : ((n : Int) == 1) = false := by simp; omega
    obtain ⟨k, hk⟩ : ∃ k, k = spl n := ⟨_, rfl⟩
    have Hk := Lib.hid hk
    rw [← hk] at hsb
    have IH := Lib.hid ih
    clear ih
    have hs1 := h.upto (k := k) (by omega)
    have hs2 := h.cut (k := k) (by omega) (by omega)
    have b1 : k ≤ n := by omega
    have b2 : k ≤ c := by omega
    have b3 : ¬ c = k := by omega
    by_cases hlt : i < k
    · have HD := Lib.hid (depU_low i n hn2 (by rw [← hk]; exact hlt))
      have HP := Lib.hid (pathU_low ns i (by omega) (by rw [hlen, ← hk]; exact hlt))
      rw [← hk] at HD
      rw [hlen, ← hk] at HP
      clear hk
      have hdl := depU_le i k
      have hlt' : (i : Int) < (k : Int) := by omega
      go_enter Try.func54, Try.ntmps54
      go_wp2_with (go_at_call 72; refine (refSplit_any n _ hn2 (by omega)).mono ?_; rintro e w1 ⟨rfl, rfl⟩; rw [← Hk.out])
      refine (IH.out k i A c (ns.take k) _ (by omega) (by omega) hlt hs1).mono ?_
      rintro e w1 ⟨A1, c1, rfl, ho1, he1⟩
      go_wp2_with fail
      refine (refRoot_any n (n - k) _ _ (ns.drop k) _ (by omega) (by omega) (hs2.ext he1)).mono ?_
      rintro e w2 ⟨rfl, he2⟩
      have ho2 := own_ext ho1 he2
      have hE2 := Ext.trans he1 he2
      have hsz := hE2.size
      generalize depU i k = d at *
      go_wp2_with (at_builtin; go_must (refine wpList_app namesE rfl (.tmp 36) (.tmp 41) rfl w.heap.size _ _ _ _ rfl (ho2.alloc _) _ _ _ (ncs [rootU (ns.drop k)]) rfl (Rd.newN _ _ _ _ rfl) (by rw [ncs_length]; rfl) (ncs_one _) ?b1 ?c1 ?d1 w ?w1 ?_))
      case b1 => omega
      case c1 => omega
      case d1 => simp; omega
      case w1 => exact Below.alloc hE2 hsz _
      intro A3 c3 w3 ho3 hw3 hs3
      go_wp2_with fail
      go_ret2
      rw [HD.out, HP.out, ncs_append]
      exact ⟨A3, c3, rfl, ho3, hw3⟩
    · have HD := Lib.hid (depU_high i n hn2 (by rw [← hk]; exact hlt))
      have HP := Lib.hid (pathU_high ns i (by omega) (by rw [hlen, ← hk]; exact hlt))
      rw [← hk] at HD
      rw [hlen, ← hk] at HP
      clear hk
      have hdl := depU_le (i - k) (n - k)
      have hlt' : ¬ (i : Int) < (k : Int) := by omega
      go_enter Try.func54, Try.ntmps54
      go_wp2_with (go_at_call 72; refine (refSplit_any n _ hn2 (by omega)).mono ?_; rintro e w1 ⟨rfl, rfl⟩; rw [← Hk.out])
      rw [show (i : Int) - (k : Int) = ((i - k : Nat) : Int) from by omega]
      refine (IH.out (n - k) (i - k) _ (c - k) (ns.drop k) _ (by omega) (by omega) (by omega) hs2).mono ?_
      rintro e w1 ⟨A1, c1, rfl, ho1, he1⟩
      go_wp2_with fail
      refine (refRoot_any n k _ _ (ns.take k) _ (by omega) (by omega) (hs1.ext he1)).mono ?_
      rintro e w2 ⟨rfl, he2⟩
      have ho2 := own_ext ho1 he2
      have hE2 := Ext.trans he1 he2
      have hsz := hE2.size
      generalize depU (i - k) (n - k) = d at *
      go_wp2_with (at_builtin; go_must (refine wpList_app namesE rfl (.tmp 53) (.tmp 58) rfl w.heap.size _ _ _ _ rfl (ho2.alloc _) _ _ _ (ncs [rootU (ns.take k)]) rfl (Rd.newN _ _ _ _ rfl) (by rw [ncs_length]; rfl) (ncs_one _) ?b1 ?c1 ?d1 w ?w1 ?_))
      case b1 => omega
      case c1 => omega
      case d1 => simp; omega
      case w1 => exact Below.alloc hE2 hsz _
      intro A3 c3 w3 ho3 hw3 hs3
      go_wp2_with fail
      go_ret2
      rw [HD.out, HP.out, ncs_append]
      exact ⟨A3, c3, rfl, ho3, hw3⟩
theorem own_setCells {base : Nat} {e : TypeId} {size : Nat} {v : Value} {n : Nat} {xs : List Value} {g : Nat} (hg : g < base) (vs : List Value) : ∀ (o : Nat) (w : World), w.ownsRow base e size v n xs → (w.setCells g o vs).ownsRow base e size v n xs := by
  induction vs with
  | nil => intro o w h; exact h
  | cons u r ih => intro o w h; exact ih (o + 1) _ (ownsRow_setCell_below h (a := ⟨g, o, none⟩) hg u)
set_option maxRecDepth 100000 in
set_option maxHeartbeats 2000000 in
theorem climb_any (N : Nat) : ∀ (n i : Nat) (A : Option Addr) (c : Nat) (ns : List UInt64) (w : World), n ≤ N → n ≤ 1000000 → i < n → SlN w A n c ns →
    Calls Try.prog 105 #[.slice A n c, .int .i64 (i : Int)] w fun e w' => ∃ A' c', e = .returned (.slice A' (depU i n) c') ∧ w'.ownsRow w.heap.size 61 8 (.slice A' (depU i n) c') (depU i n) (ncs (pathU ns i)) ∧ Ext w w' := by
  induction N with
  | zero => intro n i A c ns w hn _ hi h; omega
  | succ N ih =>
    intro n i A c ns w hn hmx hi h
    by_cases h0 : n ≤ N
    · exact ih n i A c ns w h0 hmx hi h
    by_cases h1 : n = 1
    · subst h1
      have HD := Lib.hid (depU_short i 1 (by omega))
      have HP := Lib.hid (pathU_short ns i (by rw [h.len]; omega))
      go_enter Try.func105, Try.ntmps105
      go_wp2_with fail
      go_ret
      rw [HD.out, HP.out]
      exact ⟨none, 0, rfl, World.ownsRow_nil _ _ _ _, Ext.refl w⟩
    have hn2 : 2 ≤ n := by omega
    have hlen := h.len
    have hle := h.le
    have hcap := h.cap
    have hsb := spl_bd n hn2
    have n1 : ((n : Int) == 1) = false := by simp; omega
    obtain ⟨k, hk⟩ : ∃ k, k = spl n := ⟨_, rfl⟩
    have Hk := Lib.hid hk
    rw [← hk] at hsb
    have IH := Lib.hid ih
    clear ih
    have hE1 : Ext w (w.alloc (.cells zcs.toArray 61)).drew := ((Ext.refl w).alloc' _).drew'
    have hX : Ext (w.alloc (.cells zcs.toArray 61)).drew (w.alloc (.cells zcs.toArray 61)).drew := Ext.refl _
    have hz : Blk (w.alloc (.cells zcs.toArray 61)).drew w.heap.size 61 zcs.toArray := (Blk.new w _ _).drew
    have hs1 := (h.uptoCap (k := k) (d := k) (by omega) (Nat.le_refl _) (by omega)).ext hE1
    have hs2 := (h.cut (k := k) (by omega) (by omega)).ext hE1
    have b1 : k ≤ n := by omega
    have b2 : k ≤ c := by omega
    have b3 : ¬ c = k := by omega
    by_cases hlt : i < k
    · have HD := Lib.hid (depU_low i n hn2 (by rw [← hk]; exact hlt))
      have HP := Lib.hid (pathU_low ns i (by omega) (by rw [hlen, ← hk]; exact hlt))
      rw [← hk] at HD
      rw [hlen, ← hk] at HP
      clear hk
      have hdl := depU_le i k
      have hlt' : (i : Int) < (k : Int) := by omega
      go_enter Try.func105, Try.ntmps105
      go_wp2_with (go_at_call 89; refine (split_any n _ hn2 (by omega)).mono ?_; rintro e w1 ⟨rfl, rfl⟩; rw [← Hk.out])
      go_region_held3 (fun _ => True) (trivial) (first | (go_at_call 105; refine (IH.out k i A k (ns.take k) _ (by omega) (by omega) hlt hs1).mono ?_; rintro e w1 ⟨A1, c1, rfl, ho1, he1⟩; have hX := Ext.trans hX he1) | (go_at_call 65; refine (root_any n (n - k) _ _ (ns.drop k) _ (by omega) (by omega) (hs2.ext hX)).mono ?_; rintro e w2 ⟨rfl, he2⟩; have hX := Ext.trans hX he2; have hst := run_storeN (hz.ext hX) (rootU (ns.drop k))))
      have hbR := blkN (hz.ext hX) (rootU (ns.drop k))
      have hoR := own_setCells (g := w.heap.size) (by simp) (nmc (rootU (ns.drop k))).toList 0 w2 (own_ext ho1 he2)
      have hER : Ext w (w2.setCells w.heap.size 0 (nmc (rootU (ns.drop k))).toList) := Below.setCells' (hE1.trans hX) (Nat.le_refl _) _ _
      clear hst hX hz hs1 hs2 hE1 he1 he2 ho1 IH
      generalize depU i k = d at *
      generalize rootU (ns.drop k) = r at *
      generalize w2.setCells w.heap.size 0 (nmc r).toList = w4 at *
      have hsz4 := hbR.lt
      have SS : ∀ w', Ext w4 w' → ∀ i, i < 8 → w'.cell? ⟨w.heap.size, i, none⟩ = some (.int .u8 (nb8 r i)) := fun w' hx => cells8 (hbR.ext hx)
      have HSS := Lib.hid SS
      clear SS
      have hra := (Rd.of_own hoR).ext (((Ext.refl w4).alloc' (.cells (nmc r) 61)).drew')
      have hla := hoR.1
      have hcc := own_cap hoR
      go_wp2_with fail
      go_region_held3 (fun w' => ∀ i, i < 8 → w'.cell? ⟨w.heap.size, i, none⟩ = some (.int .u8 (nb8 r i))) (first | exact HSS.out _ (Ext.refl w4).drew' | exact HSS.out _ ((Ext.refl w4).alloc' _).drew' | exact HSS.out _ (Ext.trans ((Ext.refl w4).alloc' _).drew' hw6)) ((refine step_appFull namesE rfl (.tmp 44) (.tmp 46) rfl A1 d _ (by rfl) hra hla (some ⟨w4.heap.size, 0, none⟩) 1 1 (ncs [r]) (by rfl) (Rd.newN _ _ _ _ rfl) (by rw [ncs_length]; rfl) (by omega) (by omega) (by omega) ?_; intro A6 c6 w6 ho6 hw6))
      go_wp2_with fail
      go_ret
      rw [HD.out, HP.out, ncs_append]
      exact ⟨A6, c6, rfl, own_mono ho6 (by simp; omega), hER.trans (Ext.trans ((Ext.refl w4).alloc' _).drew' hw6)⟩
    · have HD := Lib.hid (depU_high i n hn2 (by rw [← hk]; exact hlt))
      have HP := Lib.hid (pathU_high ns i (by omega) (by rw [hlen, ← hk]; exact hlt))
      rw [← hk] at HD
      rw [hlen, ← hk] at HP
      clear hk
      have hdl := depU_le (i - k) (n - k)
      have hlt' : ¬ (i : Int) < (k : Int) := by omega
      have hsub : IntKind.i64.wrap ((i : Int) - (k : Int)) = ((i - k : Nat) : Int) := by rw [IntKind.wrap_i64]; omega
      go_enter Try.func105, Try.ntmps105
      go_wp2_with (go_at_call 89; refine (split_any n _ hn2 (by omega)).mono ?_; rintro e w1 ⟨rfl, rfl⟩; rw [← Hk.out])
      go_region_held3 (fun _ => True) (trivial) (first | (go_at_call 105; refine (IH.out (n - k) (i - k) _ (c - k) (ns.drop k) _ (by omega) (by omega) (by omega) hs2).mono ?_; rintro e w1 ⟨A1, c1, rfl, ho1, he1⟩; have hX := Ext.trans hX he1) | (go_at_call 65; refine (root_any n k _ _ (ns.take k) _ (by omega) (by omega) (hs1.ext hX)).mono ?_; rintro e w2 ⟨rfl, he2⟩; have hX := Ext.trans hX he2; have hst := run_storeN (hz.ext hX) (rootU (ns.take k))))
      have hbR := blkN (hz.ext hX) (rootU (ns.take k))
      have hoR := own_setCells (g := w.heap.size) (by simp) (nmc (rootU (ns.take k))).toList 0 w2 (own_ext ho1 he2)
      have hER : Ext w (w2.setCells w.heap.size 0 (nmc (rootU (ns.take k))).toList) := Below.setCells' (hE1.trans hX) (Nat.le_refl _) _ _
      clear hst hX hz hs1 hs2 hE1 he1 he2 ho1 IH
      generalize depU (i - k) (n - k) = d at *
      generalize rootU (ns.take k) = r at *
      generalize w2.setCells w.heap.size 0 (nmc r).toList = w4 at *
      have hsz4 := hbR.lt
      have SS : ∀ w', Ext w4 w' → ∀ i, i < 8 → w'.cell? ⟨w.heap.size, i, none⟩ = some (.int .u8 (nb8 r i)) := fun w' hx => cells8 (hbR.ext hx)
      have HSS := Lib.hid SS
      clear SS
      have hra := (Rd.of_own hoR).ext (((Ext.refl w4).alloc' (.cells (nmc r) 61)).drew')
      have hla := hoR.1
      have hcc := own_cap hoR
      go_wp2_with fail
      go_region_held3 (fun w' => ∀ i, i < 8 → w'.cell? ⟨w.heap.size, i, none⟩ = some (.int .u8 (nb8 r i))) (first | exact HSS.out _ (Ext.refl w4).drew' | exact HSS.out _ ((Ext.refl w4).alloc' _).drew' | exact HSS.out _ (Ext.trans ((Ext.refl w4).alloc' _).drew' hw6)) ((refine step_appFull namesE rfl (.tmp 44) (.tmp 46) rfl A1 d _ (by rfl) hra hla (some ⟨w4.heap.size, 0, none⟩) 1 1 (ncs [r]) (by rfl) (Rd.newN _ _ _ _ rfl) (by rw [ncs_length]; rfl) (by omega) (by omega) (by omega) ?_; intro A6 c6 w6 ho6 hw6))
      go_wp2_with fail
      go_ret
      rw [HD.out, HP.out, ncs_append]
      exact ⟨A6, c6, rfl, own_mono ho6 (by simp; omega), hER.trans (Ext.trans ((Ext.refl w4).alloc' _).drew' hw6)⟩
set_option maxHeartbeats 1000000 in
theorem path_any (n i : Nat) (A : Option Addr) (c : Nat) (ns : List UInt64) (w : World) (hm : n ≤ 1000000) (hi : i < n) (h : SlN w A n c ns) :
    Calls Try.prog 94 #[.slice A n c, .int .i64 (i : Int)] w fun e w' => ∃ A' c', e = .returned (.tuple #[.slice A' (depU i n) c', .bool true]) ∧ w'.ownsRow w.heap.size 61 8 (.slice A' (depU i n) c') (depU i n) (ncs (pathU ns i)) ∧ Ext w w' := by
  go_enter Try.func94, Try.ntmps94
  go_wp2_with (first | (go_at_call 101; refine (depth_in i n _ hi hm).mono ?_; rintro e w1 ⟨rfl, rfl⟩) | (go_at_call 105; refine (climb_any n n i A c ns _ (Nat.le_refl _) hm hi h).mono ?_; rintro e w1 ⟨A1, c1, rfl, ho1, he1⟩))
  go_ret2
  exact ⟨A1, c1, rfl, ho1, he1⟩
end Go.Proofs.Ytengpfpeeihaoaa
