import Derived.Test.YtengpfpeeihaoaaMrk2
namespace Go.Proofs.Ytengpfpeeihaoaa
open Go.RowKit
set_option linter.unusedVariables false
set_option linter.unusedSimpArgs false
attribute [local go_sem ↓] Go.wp_at_zero Go.wp_at_succ

set_option maxHeartbeats 1000000 in
theorem depth_in (i n : Nat) (w : World) (hi : i < n) (hm : n ≤ 1000000) :
    Calls Try.prog 101 #[.int .i64 (i : Int), .int .i64 (n : Int)] w fun e w' => e = .returned (.int .i64 (depU i n : Int)) ∧ w = w' := by
  have e1 : decide (n ≤ i) = false := decide_eq_false (by omega)
  have e0 : decide ((i : Int) < 0) = false := decide_eq_false (by omega)
  go_enter Try.func101, Try.ntmps101
  go_wp2_with fail
  go_loop [0, 1, 5] (fun vi vn vd => ∃ (i' n' d : Nat), vi = .int .i64 (i' : Int) ∧ vn = .int .i64 (n' : Int) ∧ vd = .int .i64 (d : Int) ∧ i' < n' ∧ d + n' ≤ n ∧ Hid (d + depU i' n' = depU i n)) (fun _ vn _ => (intOf vn).toNat)
  case atStart => exact ⟨i, n, 0, rfl, rfl, rfl, hi, by omega, Nat.zero_add _⟩
  case round =>
    obtain ⟨i', n', d, rfl, rfl, rfl, hi', hd, hs⟩ := hrel
    by_cases h2 : 2 ≤ n'
    · have hsb := spl_bd n' h2
      have h2' : (1 : Int) < (n' : Int) := by omega
      obtain ⟨k, hk⟩ : ∃ k, k = spl n' := ⟨_, rfl⟩
      have Hk := Lib.hid hk
      rw [← hk] at hsb
      clear hk
      by_cases hlt : i' < k
      · have hs2 : Hid (d + 1 + depU i' k = depU i n) := Lib.hid (by have := hs.out; rw [depU_low i' n' h2 (by rw [← Hk.out]; exact hlt), ← Hk.out] at this; omega)
        have hk' : (i' : Int) < (k : Int) := by omega
        go_wp2_with (go_at_call 89; refine (split_any n' _ h2 (by omega)).mono ?_; rintro e w1 ⟨rfl, rfl⟩; rw [← Hk.out])
        go_round
        case rel => first | exact ⟨i', k, d + 1, rfl, rfl, by go_num, hlt, by omega, hs2⟩ | (refine ⟨trivial, ?_⟩; (repeat apply Exists.intro); exact ⟨⟨i', k, d + 1, rfl, rfl, by go_num, hlt, by omega, hs2⟩, rfl⟩)
        case measure => simp [intOf]; omega
      · have hs2 : Hid (d + 1 + depU (i' - k) (n' - k) = depU i n) := Lib.hid (by have := hs.out; rw [depU_high i' n' h2 (by rw [← Hk.out]; exact hlt), ← Hk.out] at this; omega)
        have hk' : ¬ (i' : Int) < (k : Int) := by omega
        go_wp2_with (go_at_call 89; refine (split_any n' _ h2 (by omega)).mono ?_; rintro e w1 ⟨rfl, rfl⟩; rw [← Hk.out])
        go_round
        case rel => first | exact ⟨i' - k, n' - k, d + 1, by go_num, by go_num, by go_num, by omega, by omega, hs2⟩ | (refine ⟨trivial, ?_⟩; (repeat apply Exists.intro); exact ⟨⟨i' - k, n' - k, d + 1, by go_num, by go_num, by go_num, by omega, by omega, hs2⟩, rfl⟩)
        case measure => simp [intOf]; omega
    · have hs2 : Hid (d = depU i n) := Lib.hid (by have := hs.out; rw [depU_short i' n' h2] at this; omega)
      have h2' : ¬ (1 : Int) < (n' : Int) := by omega
      go_wp2_with fail
      go_ret
      exact ⟨by rw [← hs2.out]; rfl, rfl⟩
set_option maxHeartbeats 1000000 in
theorem depth_out (i n : Int) (w : World) (h : i < 0 ∨ n ≤ i) :
    Calls Try.prog 101 #[.int .i64 i, .int .i64 n] w fun e w' => e = .returned (.int .i64 (-1)) ∧ w = w' := by
  by_cases h0 : i < 0
  · go_enter Try.func101, Try.ntmps101
    go_wp2_with fail
    go_ret
    exact ⟨rfl, rfl⟩
  · have h1 : n ≤ i := by omega
    go_enter Try.func101, Try.ntmps101
    go_wp2_with fail
    go_ret
    exact ⟨rfl, rfl⟩
set_option maxHeartbeats 1000000 in
theorem refDepth_in (i n : Nat) (w : World) (hi : i < n) (hm : n ≤ 1000000) :
    Calls Try.prog 85 #[.int .i64 (i : Int), .int .i64 (n : Int)] w fun e w' => e = .returned (.int .i64 (depU i n : Int)) ∧ w = w' := by
  have e1 : decide (n ≤ i) = false := decide_eq_false (by omega)
  have e0 : decide ((i : Int) < 0) = false := decide_eq_false (by omega)
  go_enter Try.func85, Try.ntmps85
  go_wp2_with fail
  go_loop [0, 1, 5] (fun vi vn vd => ∃ (i' n' d : Nat), vi = .int .i64 (i' : Int) ∧ vn = .int .i64 (n' : Int) ∧ vd = .int .i64 (d : Int) ∧ i' < n' ∧ d + n' ≤ n ∧ Hid (d + depU i' n' = depU i n)) (fun _ vn _ => (intOf vn).toNat)
  case atStart => exact ⟨i, n, 0, rfl, rfl, rfl, hi, by omega, Nat.zero_add _⟩
  case round =>
    obtain ⟨i', n', d, rfl, rfl, rfl, hi', hd, hs⟩ := hrel
    by_cases h2 : 2 ≤ n'
    · have hsb := spl_bd n' h2
      have h2' : (1 : Int) < (n' : Int) := by omega
      obtain ⟨k, hk⟩ : ∃ k, k = spl n' := ⟨_, rfl⟩
      have Hk := Lib.hid hk
      rw [← hk] at hsb
      clear hk
      by_cases hlt : i' < k
      · have hs2 : Hid (d + 1 + depU i' k = depU i n) := Lib.hid (by have := hs.out; rw [depU_low i' n' h2 (by rw [← Hk.out]; exact hlt), ← Hk.out] at this; omega)
        have hk' : (i' : Int) < (k : Int) := by omega
        go_wp2_with (go_at_call 72; refine (refSplit_any n' _ h2 (by omega)).mono ?_; rintro e w1 ⟨rfl, rfl⟩; rw [← Hk.out])
        go_round
        case rel => first | exact ⟨i', k, d + 1, rfl, rfl, by go_num, hlt, by omega, hs2⟩ | (refine ⟨trivial, ?_⟩; (repeat apply Exists.intro); exact ⟨⟨i', k, d + 1, rfl, rfl, by go_num, hlt, by omega, hs2⟩, rfl⟩)
        case measure => simp [intOf]; omega
      · have hs2 : Hid (d + 1 + depU (i' - k) (n' - k) = depU i n) := Lib.hid (by have := hs.out; rw [depU_high i' n' h2 (by rw [← Hk.out]; exact hlt), ← Hk.out] at this; omega)
        have hk' : ¬ (i' : Int) < (k : Int) := by omega
        go_wp2_with (go_at_call 72; refine (refSplit_any n' _ h2 (by omega)).mono ?_; rintro e w1 ⟨rfl, rfl⟩; rw [← Hk.out])
        go_round
        case rel => first | exact ⟨i' - k, n' - k, d + 1, by go_num, by go_num, by go_num, by omega, by omega, hs2⟩ | (refine ⟨trivial, ?_⟩; (repeat apply Exists.intro); exact ⟨⟨i' - k, n' - k, d + 1, by go_num, by go_num, by go_num, by omega, by omega, hs2⟩, rfl⟩)
        case measure => simp [intOf]; omega
    · have hs2 : Hid (d = depU i n) := Lib.hid (by have := hs.out; rw [depU_short i' n' h2] at this; omega)
      have h2' : ¬ (1 : Int) < (n' : Int) := by omega
      go_wp2_with fail
      go_ret
      exact ⟨by rw [← hs2.out]; rfl, rfl⟩
set_option maxHeartbeats 1000000 in
theorem refDepth_out (i n : Int) (w : World) (h : i < 0 ∨ n ≤ i) :
    Calls Try.prog 85 #[.int .i64 i, .int .i64 n] w fun e w' => e = .returned (.int .i64 (-1)) ∧ w = w' := by
  by_cases h0 : i < 0
  · go_enter Try.func85, Try.ntmps85
    go_wp2_with fail
    go_ret
    exact ⟨rfl, rfl⟩
  · have h1 : n ≤ i := by omega
    go_enter Try.func85, Try.ntmps85
    go_wp2_with fail
    go_ret
    exact ⟨rfl, rfl⟩
section
variable {P : Program} {t e : TypeId} {z : Value} {size bytes : Nat}
/-- append to a slice without room: what it holds is copied -/
theorem run_appFull (E : Elem P t e z size bytes) (ty : TypeId) (w : World) (A : Option Addr) (n : Nat) (xs : List Value) (hra : Rd w A xs) (hla : xs.length = n * size)
    (A2 : Option Addr) (m c2 : Nat) (ys : List Value) (hr : Rd w A2 ys) (hl : ys.length = m * size) (hm : 0 < m)
    (hb : (n + m) * bytes ≤ 140737488355328) (h63 : n + m ≤ 4611686018427387904) :
    ∃ A' c' w', (Builtin.append_ #[t, t] ty #[.slice A n n, .slice A2 m c2]).run P w = .ok (.slice A' (n + m) c') w' ∧ w'.ownsRow w.heap.size e size (.slice A' (n + m) c') (n + m) (xs ++ ys) ∧ Ext w w' := by
  obtain ⟨i, hi, hz, hs, hby⟩ := E.get
  subst hs; subst hby
  have hp := E.pos
  obtain ⟨ad2, rfl, hcb⟩ := hr.src (by rw [hl]; exact Nat.mul_pos hm hp)
  rcases A with _ | ad
  · have hx : xs = [] := by
      rcases hra with h | ⟨b, o, h, _⟩
      · exact h
      · cases h
    subst hx
    have hn : n = 0 := by
      rcases Nat.eq_zero_or_pos n with h | h
      · exact h
      · have := Nat.mul_pos h hp; simp at hla; omega
    subst hn
    have hrun := run_append_nil (P := P) w t ty e i z E.ut hi hz ad2 m c2 ys hl hcb hm (by omega) (by have hb := hb; simp only [Nat.zero_add] at hb; omega)
    have hge := grownCap_ge w m 0 e
    have hcm : grownCap w m 0 e ≤ maxLen := grownCap_le_maxLen w m 0 e (by simp only [maxLen]; omega)
    simp only [Nat.zero_add, List.nil_append]
    refine ⟨_, _, _, hrun, ⟨hl, .inr ⟨w.heap.size, _, _, rfl, Nat.le_refl _, heap_alloc_new w.drew _, hge, hcm, ?_, ?_⟩⟩, (Ext.refl w).drew'.alloc' _⟩
    · simp only [Array.size_append, List.size_toArray, size_zeroCells, E.zs, hl, ← Nat.add_mul]
      congr 1; omega
    · simp only [Array.toList_append]
      rw [← hl]
      exact List.take_left
  · have hca : ∀ j v, xs[j]? = some v → w.cell? (ad.add j) = some v := by
      intro j v hv
      obtain ⟨ad', h, hc⟩ := hra.src (by have := (List.getElem?_eq_some_iff.1 hv).1; omega)
      injection h with h; subst h; exact hc j v hv
    have hg : n < n + m := by omega
    have hrun := run_append_grow (P := P) w t ty e i z E.ut hi hz ad n n xs hla hca ad2 m c2 ys hl hcb hg (by omega) (growslice_fits hg hb)
    refine ⟨_, _, _, hrun, ⟨by rw [List.length_append, hla, hl, Nat.add_mul], .inr ⟨w.heap.size, _, _, rfl, Nat.le_refl _, heap_alloc_new w.drew _, grownCap_ge w _ _ _, grownCap_le_maxLen w _ _ _ (by simp only [maxLen]; omega), ?_, ?_⟩⟩, (Ext.refl w).drew'.alloc' _⟩
    · simp only [Array.size_append, List.size_toArray, size_zeroCells, E.zs, hla, hl, ← Nat.add_mul]
      have := grownCap_ge w (n + m) n e
      congr 1; omega
    · simp only [Array.toList_append, List.append_assoc]
      rw [← List.append_assoc, show (n + m) * i.size = (xs ++ ys).length from by rw [List.length_append, hla, hl, Nat.add_mul]]
      exact List.take_left
theorem step_appFull {ops : Array Oper} {o : Oper} {a : Act} {w : World} {K : Act → World → Prop} {Q : Exit → Act → World → Prop} {X : Prop} (E : Elem P t e z size bytes) (hgd : o.guard = none) (s x : Operand)
    (ho : o.op = .call { callee := .builtin .append, args := #[s, x], argTypes := #[t, t] })
    (A : Option Addr) (n : Nat) (xs : List Value) (hs : a.eval s = .slice A n n) (hra : Rd w A xs) (hla : xs.length = n * size)
    (A2 : Option Addr) (m c2 : Nat) (ys : List Value) (hx : a.eval x = .slice A2 m c2) (hr : Rd w A2 ys) (hl : ys.length = m * size) (hm : 0 < m)
    (hb : (n + m) * bytes ≤ 140737488355328) (h63 : n + m ≤ 4611686018427387904)
    (h : ∀ A' c' w', w'.ownsRow w.heap.size e size (.slice A' (n + m) c') (n + m) (xs ++ ys) → Ext w w' → K (a.put o.dst (.slice A' (n + m) c')) w') : if Region.wanted o (yielded ops a.tmps) = true then Oper.wp P o a w K Q else X := by
  have hw : Region.wanted o (yielded ops a.tmps) = true := by simp [Region.wanted, hgd]
  rw [if_pos hw]
  obtain ⟨A', c', w', hrun, h2, h3⟩ := run_appFull E o.type w A n xs hra hla A2 m c2 ys hr hl hm hb h63
  unfold Oper.wp execOp
  simp only [ho, resolve, invoke, builtin, Sem.run_bind, Sem.run_pure, Result.andThen_ok, List.map_toArray, List.map_cons, List.map_nil, hs, hx, hrun]
  exact h A' c' w' h2 h3
end
end Go.Proofs.Ytengpfpeeihaoaa
