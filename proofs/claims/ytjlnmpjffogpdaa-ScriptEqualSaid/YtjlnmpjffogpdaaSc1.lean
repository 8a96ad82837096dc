/- Configurations: when they are valid (both sides). -/
import Derived.Test.YtjlnmpjffogpdaaRe1
namespace Go.Proofs.Ytjlnmpjffogpdaa
open Go.RowKit
set_option linter.unusedVariables false
set_option linter.unusedSimpArgs false
attribute [local go_sem ↓] Go.wp_at_zero Go.wp_at_succ

/-- a configuration -/
structure Cf where
  m : Int
  v : Int
  a : Int
  st : Int
  ba : Int
  tw : Int
  li : Int
  sd : UInt64
abbrev cfA (c : Cf) : Array Value := #[.int .i64 c.m, .int .i64 c.v, .int .i64 c.a, .int .i64 c.st, .int .i64 c.ba, .int .i64 c.tw, .int .i64 c.li, .int .u8 (nb8 c.sd 0), .int .u8 (nb8 c.sd 1), .int .u8 (nb8 c.sd 2), .int .u8 (nb8 c.sd 3), .int .u8 (nb8 c.sd 4), .int .u8 (nb8 c.sd 5), .int .u8 (nb8 c.sd 6), .int .u8 (nb8 c.sd 7)]
/-- when it is valid -/
def vCf (c : Cf) : Bool := decide (1 ≤ c.m ∧ c.m ≤ 7 ∧ c.m ≤ c.v ∧ c.v ≤ 10 ∧ 1 ≤ c.a ∧ c.a ≤ 16 ∧ 0 ≤ c.st ∧ c.st ≤ 1099511627776 ∧ 0 ≤ c.ba ∧ c.ba ≤ 1099511627776)
theorem cf_facts {w : World} {g : Nat} {t : TypeId} {c : Cf} (h : Blk w g t (cfA c)) : w.cell? ⟨g, 0, none⟩ = some (.int .i64 c.m) ∧ w.cell? ⟨g, 1, none⟩ = some (.int .i64 c.v) ∧ w.cell? ⟨g, 2, none⟩ = some (.int .i64 c.a) ∧ w.cell? ⟨g, 3, none⟩ = some (.int .i64 c.st) ∧ w.cell? ⟨g, 4, none⟩ = some (.int .i64 c.ba) ∧ w.cell? ⟨g, 5, none⟩ = some (.int .i64 c.tw) ∧ w.cell? ⟨g, 6, none⟩ = some (.int .i64 c.li) :=
  ⟨h.cell 0, h.cell 1, h.cell 2, h.cell 3, h.cell 4, h.cell 5, h.cell 6⟩
set_option maxRecDepth 100000 in
set_option maxHeartbeats 4000000 in
theorem worldValid_any (c : Cf) (w : World) : Calls Try.prog 76 #[.agg (cfA c)] w fun e w' => e = .returned (.bool (vCf c)) ∧ Ext w w' := by
  have HE := Lib.hid ((Ext.refl w).alloc' (.cells (cfA c) 64))
  obtain ⟨q0, q1, q2, q3, q4, q5, q6⟩ := cf_facts (Blk.new w 64 (cfA c))
  obtain ⟨m, v, a, st, ba, tw, li, sd⟩ := c
  by_cases t0 : 1 ≤ m
  case neg =>
    have hv := Lib.hid (show vCf ⟨m, v, a, st, ba, tw, li, sd⟩ = false from decide_eq_false (fun h => t0 (by have := h; simp only at this; omega)))
    go_enter Try.func76, Try.ntmps76
    go_wp2_with fail
    go_ret
    exact ⟨by rw [hv.out]; rfl, HE.out⟩
  by_cases t1 : m ≤ 7
  case neg =>
    have hv := Lib.hid (show vCf ⟨m, v, a, st, ba, tw, li, sd⟩ = false from decide_eq_false (fun h => t1 (by have := h; simp only at this; omega)))
    go_enter Try.func76, Try.ntmps76
    go_wp2_with fail
    go_ret
    exact ⟨by rw [hv.out]; rfl, HE.out⟩
  by_cases t2 : m ≤ v
  case neg =>
    have hv := Lib.hid (show vCf ⟨m, v, a, st, ba, tw, li, sd⟩ = false from decide_eq_false (fun h => t2 (by have := h; simp only at this; omega)))
    go_enter Try.func76, Try.ntmps76
    go_wp2_with fail
    go_ret
    exact ⟨by rw [hv.out]; rfl, HE.out⟩
  by_cases t3 : v ≤ 10
  case neg =>
    have hv := Lib.hid (show vCf ⟨m, v, a, st, ba, tw, li, sd⟩ = false from decide_eq_false (fun h => t3 (by have := h; simp only at this; omega)))
    go_enter Try.func76, Try.ntmps76
    go_wp2_with fail
    go_ret
    exact ⟨by rw [hv.out]; rfl, HE.out⟩
  by_cases t4 : 1 ≤ a
  case neg =>
    have hv := Lib.hid (show vCf ⟨m, v, a, st, ba, tw, li, sd⟩ = false from decide_eq_false (fun h => t4 (by have := h; simp only at this; omega)))
    go_enter Try.func76, Try.ntmps76
    go_wp2_with fail
    go_ret
    exact ⟨by rw [hv.out]; rfl, HE.out⟩
  by_cases t5 : a ≤ 16
  case neg =>
    have hv := Lib.hid (show vCf ⟨m, v, a, st, ba, tw, li, sd⟩ = false from decide_eq_false (fun h => t5 (by have := h; simp only at this; omega)))
    go_enter Try.func76, Try.ntmps76
    go_wp2_with fail
    go_ret
    exact ⟨by rw [hv.out]; rfl, HE.out⟩
  by_cases t6 : 0 ≤ st
  case neg =>
    have hv := Lib.hid (show vCf ⟨m, v, a, st, ba, tw, li, sd⟩ = false from decide_eq_false (fun h => t6 (by have := h; simp only at this; omega)))
    go_enter Try.func76, Try.ntmps76
    go_wp2_with fail
    go_ret
    exact ⟨by rw [hv.out]; rfl, HE.out⟩
  by_cases t7 : st ≤ 1099511627776
  case neg =>
    have hv := Lib.hid (show vCf ⟨m, v, a, st, ba, tw, li, sd⟩ = false from decide_eq_false (fun h => t7 (by have := h; simp only at this; omega)))
    go_enter Try.func76, Try.ntmps76
    go_wp2_with fail
    go_ret
    exact ⟨by rw [hv.out]; rfl, HE.out⟩
  by_cases t8 : 0 ≤ ba
  case neg =>
    have hv := Lib.hid (show vCf ⟨m, v, a, st, ba, tw, li, sd⟩ = false from decide_eq_false (fun h => t8 (by have := h; simp only at this; omega)))
    go_enter Try.func76, Try.ntmps76
    go_wp2_with fail
    go_ret
    exact ⟨by rw [hv.out]; rfl, HE.out⟩
  by_cases t9 : ba ≤ 1099511627776
  case neg =>
    have hv := Lib.hid (show vCf ⟨m, v, a, st, ba, tw, li, sd⟩ = false from decide_eq_false (fun h => t9 (by have := h; simp only at this; omega)))
    go_enter Try.func76, Try.ntmps76
    go_wp2_with fail
    go_ret
    exact ⟨by rw [hv.out]; rfl, HE.out⟩
  have hv := Lib.hid (show vCf ⟨m, v, a, st, ba, tw, li, sd⟩ = true from decide_eq_true (by simp only; omega))
  go_enter Try.func76, Try.ntmps76
  go_wp2_with fail
  go_ret
  exact ⟨by rw [hv.out]; rfl, HE.out⟩
end Go.Proofs.Ytjlnmpjffogpdaa
