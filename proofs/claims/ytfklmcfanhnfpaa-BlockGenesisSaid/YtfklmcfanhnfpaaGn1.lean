/- A genesis as a value; amount, ValidateGenesis and the reference's ValidGenesis. -/
import Derived.Test.YtfklmcfanhnfpaaRb3
namespace Go.Proofs.Ytfklmcfanhnfpaa
open Go.RowKit
set_option linter.unusedVariables false
set_option linter.unusedSimpArgs false
attribute [local go_sem ↓] Go.wp_at_zero Go.wp_at_succ

/-- a slice of integers: the value '.slice A n c' holds the integers l -/
structure SlZ (w : World) (A : Option Addr) (n c : Nat) (l : List Int) : Prop where
  len : l.length = n
  le : n ≤ c
  cap : c ≤ 9223372036854775807
  rd : Rd w A (ics l)
def nthZ (l : List Int) (k : Nat) : Int := l.getD k 0
section
variable {w w' : World} {A : Option Addr} {n c : Nat} {l : List Int}
theorem SlZ.ext (h : SlZ w A n c l) (e : Ext w w') : SlZ w' A n c l := ⟨h.len, h.le, h.cap, h.rd.ext e⟩
theorem SlZ.nil (w : World) : SlZ w none 0 0 [] := ⟨rfl, Nat.le_refl _, Nat.zero_le _, .nil⟩
theorem SlZ.at (h : SlZ w A n c l) (hn : 0 < n) : ∃ b o, A = some ⟨b, o, none⟩ ∧ w.rangeAt b o (ics l) ∧ b < w.heap.size :=
  h.rd.at (by intro e; have := congrArg List.length e; rw [ics_length, h.len] at this; simp at this; omega)
theorem int_at {b o k : Nat} (h : w.rangeAt b o (ics l)) (hk : k < l.length) : w.cell? ⟨b, o + k, none⟩ = some (.int .i64 (nthZ l k)) := by
  refine h k _ ?_
  simp [ics, iv, nthZ, List.getD, hk]
theorem take_nthZ {k : Nat} (h : k < l.length) : l.take (k + 1) = l.take k ++ [nthZ l k] := by
  rw [List.take_succ_eq_append_getElem h]
  simp [nthZ, h]
end
/-- the cells of a genesis -/
abbrev genC (N Z : Int) (A1 : Option Addr) (n1 c1 : Nat) (A2 : Option Addr) (n2 c2 : Nat) (A3 : Option Addr) (n3 c3 : Nat) : Array Value := #[.int .i64 N, .int .i64 Z, .slice A1 n1 c1, .slice A2 n2 c2, .slice A3 n3 c3]
def amtB (z : Int) : Bool := decide (0 ≤ z ∧ z ≤ 1099511627776)
def headG (N Z : Int) (n1 n2 n3 : Nat) : Prop := 1 ≤ N ∧ N ≤ 7 ∧ 1 ≤ n1 ∧ n1 ≤ 10 ∧ N ≤ (n1 : Int) ∧ 1 ≤ n2 ∧ n2 ≤ 16 ∧ n3 = n2 ∧ 0 ≤ Z ∧ Z ≤ 1099511627776
instance (N Z : Int) (n1 n2 n3 : Nat) : Decidable (headG N Z n1 n2 n3) := by unfold headG; infer_instance
def vldG (N Z : Int) (n1 n2 n3 : Nat) (l : List Int) : Bool := decide (headG N Z n1 n2 n3) && decide (∀ k, k < l.length → amtB (nthZ l k) = true)
theorem vldG_no {N Z : Int} {n1 n2 n3 : Nat} {l : List Int} (h : ¬ headG N Z n1 n2 n3) : vldG N Z n1 n2 n3 l = false := by
  unfold vldG; rw [decide_eq_false h, Bool.false_and]
theorem vldG_at {N Z : Int} {n1 n2 n3 : Nat} {l : List Int} {k : Nat} (hk : k < l.length) (h : amtB (nthZ l k) = false) : vldG N Z n1 n2 n3 l = false := by
  unfold vldG; rw [decide_eq_false (p := ∀ k, k < l.length → amtB (nthZ l k) = true) (fun hh => by rw [hh k hk] at h; cases h), Bool.and_false]
theorem vldG_yes {N Z : Int} {n1 n2 n3 : Nat} {l : List Int} (h : headG N Z n1 n2 n3) (h2 : ∀ k, k < l.length → amtB (nthZ l k) = true) : vldG N Z n1 n2 n3 l = true := by
  unfold vldG; rw [decide_eq_true h, decide_eq_true h2]; rfl
def codeG (b : Bool) : Int := if b then 0 else 1
theorem amount_yes (z : Int) (h : 0 ≤ z ∧ z ≤ 1099511627776) (w : World) : Calls Try.prog 101 #[.int .i64 z] w fun e w' => e = .returned (.bool true) ∧ w = w' := by
  obtain ⟨h1, h2⟩ := h
  go_enter Try.func101, Try.ntmps101
  go_wp2_with fail
  go_ret
  exact ⟨rfl, rfl⟩
theorem amount_no (z : Int) (h : z < 0 ∨ 1099511627776 < z) (w : World) : Calls Try.prog 101 #[.int .i64 z] w fun e w' => e = .returned (.bool false) ∧ w = w' := by
  by_cases h1 : 0 ≤ z
  · have h2 : decide (z ≤ 1099511627776) = false := decide_eq_false (by omega)
    go_enter Try.func101, Try.ntmps101
    go_wp2_with fail
    go_ret
    exact ⟨rfl, rfl⟩
  · have h2 : decide (0 ≤ z) = false := decide_eq_false h1
    go_enter Try.func101, Try.ntmps101
    go_wp2_with fail
    go_ret
    exact ⟨rfl, rfl⟩
theorem amount_any (z : Int) (w : World) : Calls Try.prog 101 #[.int .i64 z] w fun e w' => e = .returned (.bool (amtB z)) ∧ w = w' := by
  by_cases h : 0 ≤ z ∧ z ≤ 1099511627776
  · rw [show amtB z = true from decide_eq_true h]; exact amount_yes z h w
  · rw [show amtB z = false from decide_eq_false h]; exact amount_no z (by omega) w
set_option maxRecDepth 100000 in
set_option maxHeartbeats 4000000 in
theorem valGenesis_any (N Z : Int) (A1 : Option Addr) (n1 c1 : Nat) (A2 : Option Addr) (n2 c2 : Nat) (A3 : Option Addr) (n3 c3 : Nat) (l : List Int) (w : World) (hS : SlZ w A3 n3 c3 l) (hm1 : n1 ≤ 9223372036854775807) (hm2 : n2 ≤ 9223372036854775807) :
    Calls Try.prog 62 #[.agg (genC N Z A1 n1 c1 A2 n2 c2 A3 n3 c3)] w fun e w' => e = .returned (.int .i64 (codeG (vldG N Z n1 n2 n3 l))) ∧ Ext w w' := by
  have hlen := hS.len
  have hle := hS.le
  have hcap := hS.cap
  have HE := Lib.hid ((Ext.refl w).alloc' (.cells (genC N Z A1 n1 c1 A2 n2 c2 A3 n3 c3) 50))
  have HB := Lib.hid (Blk.new w 50 (genC N Z A1 n1 c1 A2 n2 c2 A3 n3 c3))
  have HS := Lib.hid hS
  have HLEN := Lib.hid hlen
  clear hS hlen
  by_cases t0 : 1 ≤ N
  · have d0 : decide (N < 1) = false := decide_eq_false (by omega)
    by_cases t1 : N ≤ 7
    · have d1 : decide (7 < N) = false := decide_eq_false (by omega)
      by_cases t2 : (1 : Int) ≤ (n1 : Int)
      · have d2 : decide ((n1 : Int) < 1) = false := decide_eq_false (by omega)
        by_cases t3 : (n1 : Int) ≤ 10
        · have d3 : decide ((10 : Int) < (n1 : Int)) = false := decide_eq_false (by omega)
          by_cases t4 : N ≤ (n1 : Int)
          · have d4 : decide ((n1 : Int) < N) = false := decide_eq_false (by omega)
            by_cases t5 : (1 : Int) ≤ (n2 : Int)
            · have d5 : decide ((n2 : Int) < 1) = false := decide_eq_false (by omega)
              by_cases t6 : (n2 : Int) ≤ 16
              · have d6 : decide ((16 : Int) < (n2 : Int)) = false := decide_eq_false (by omega)
                by_cases t7 : n3 = n2
                · subst t7
                  by_cases t8 : 0 ≤ Z ∧ Z ≤ 1099511627776
                  · have HH := Lib.hid (show headG N Z n1 n3 n3 from ⟨t0, t1, by omega, by omega, t4, by omega, by omega, rfl, t8.1, t8.2⟩)
                    have HM := Lib.hid (amount_yes Z t8)
                    obtain ⟨b, o, rfl, hr, hb⟩ := HS.out.at (by omega)
                    have HR := Lib.hid hr
                    have HBL := Lib.hid hb
                    clear hr hb t8
                    go_enter Try.func62, Try.ntmps62
                    go_wp2_with fail
                    go_quiet (fail)
                    go_wp2_with (go_at_call 101; (with_reducible refine (HM.out _).mono ?_); rintro e wv ⟨rfl, rfl⟩)
                    go_loopw [59] (fun i wr => ∃ q : Nat, q ≤ n3 ∧ i = .int .i64 (q : Int) ∧ Hid (∀ j, j < q → amtB (nthZ l j) = true) ∧ Ext (w.alloc (.cells (genC N Z A1 n1 c1 A2 n3 c2 (some ⟨b, o, none⟩) n3 c3) 50)) wr) (fun i _ => n3 - (intOf i).toNat)
                    case atStart => exact ⟨0, Nat.zero_le _, rfl, Lib.hid (fun j hj => by omega), drewN_ext _ _⟩
                    case round =>
                      obtain ⟨q, hq, rfl, HP, hX⟩ := hrel
                      have HX := Lib.hid hX
                      have hra := rangeAt_keep HR.out ((HE.out.trans hX).block b HBL.out)
                      clear hX
                      by_cases hlt : q < n3
                      · have hid := int_at hra (k := q) (by rw [HLEN.out]; exact hlt)
                        have HQ := Lib.hid (fun (hx : amtB (nthZ l q) = true) => show ∀ j, j < q + 1 → amtB (nthZ l j) = true from fun j hj => by
                          rcases Nat.lt_or_ge j q with h | h
                          · exact HP.out j h
                          · obtain rfl : j = q := by omega
                            exact hx)
                        have HN := Lib.hid (fun (hx : amtB (nthZ l q) = false) => show codeG (vldG N Z n1 n3 n3 l) = 1 by rw [vldG_at (by rw [HLEN.out]; exact hlt) hx]; rfl)
                        have HA := Lib.hid (amount_any (nthZ l q))
                        have i0 : (0 : Int) ≤ (q : Int) := by omega
                        have i1 : (q : Int) < (n3 : Int) := by omega
                        clear hra
                        rcases hx : amtB (nthZ l q) with _ | _
                        · have HXX := Lib.hid (HN.out hx)
                          rw [hx] at HA
                          generalize nthZ l q = z at *
                          clear hx HN HQ
                          go_wp2_with fail
                          refine (HA.out _).mono ?_
                          rintro e wv ⟨rfl, rfl⟩
                          go_wp2_with fail
                          go_ret
                          exact ⟨by rw [HXX.out]; rfl, HE.out.trans HX.out⟩
                        · have HXX := Lib.hid (HQ.out hx)
                          rw [hx] at HA
                          generalize nthZ l q = z at hid HA
                          clear hx HN HQ
                          go_wp2_with fail
                          refine (HA.out _).mono ?_
                          rintro e wv ⟨rfl, rfl⟩
                          go_wp2_with fail
                          go_roundw
                          case rel => exact ⟨q + 1, by omega, by go_num, HXX, HX.out⟩
                          case measure => simp [intOf]; omega
                      · obtain rfl : q = n3 := by omega
                        have HF := Lib.hid (show codeG (vldG N Z n1 q q l) = 0 by rw [vldG_yes HH.out (fun k hk => HP.out k (by rw [HLEN.out] at hk; exact hk))]; rfl)
                        go_wp2_with fail
                        go_ret
                        exact ⟨by rw [HF.out]; rfl, HE.out.trans HX.out⟩
                  · have HM := Lib.hid (amount_no Z (by omega))
                    have HF := Lib.hid (show codeG (vldG N Z n1 n3 n3 l) = 1 by rw [vldG_no (fun h => t8 ⟨h.2.2.2.2.2.2.2.2.1, h.2.2.2.2.2.2.2.2.2⟩)]; rfl)
                    clear HS
                    go_enter Try.func62, Try.ntmps62
                    go_wp2_with fail
                    go_quiet (fail)
                    go_wp2_with (go_at_call 101; (with_reducible refine (HM.out _).mono ?_); rintro e wv ⟨rfl, rfl⟩)
                    go_ret
                    exact ⟨by rw [HF.out]; rfl, HE.out.trans (drewN_ext _ _)⟩
                · have d7 : ((n3 : Int) != (n2 : Int)) = true := by simp; omega
                  have d8 : ¬ (n3 : Int) = (n2 : Int) := by omega
                  have HF := Lib.hid (show codeG (vldG N Z n1 n2 n3 l) = 1 by rw [vldG_no (fun h => t7 h.2.2.2.2.2.2.2.1)]; rfl)
                  clear HS
                  go_enter Try.func62, Try.ntmps62
                  go_wp2_with fail
                  go_quiet (fail)
                  go_wp2_with fail
                  go_ret
                  exact ⟨by rw [HF.out]; rfl, HE.out.trans (drewN_ext _ _)⟩
              · have e6 : (16 : Int) < (n2 : Int) := by omega
                have HF := Lib.hid (show codeG (vldG N Z n1 n2 n3 l) = 1 by rw [vldG_no (fun h => t6 (by have := h.2.2.2.2.2.2.1; omega))]; rfl)
                clear HS
                go_enter Try.func62, Try.ntmps62
                go_wp2_with fail
                go_quiet (fail)
                go_wp2_with fail
                go_ret
                exact ⟨by rw [HF.out]; rfl, HE.out.trans (drewN_ext _ _)⟩
            · have e5 : (n2 : Int) < 1 := by omega
              have HF := Lib.hid (show codeG (vldG N Z n1 n2 n3 l) = 1 by rw [vldG_no (fun h => t5 (by have := h.2.2.2.2.2.1; omega))]; rfl)
              clear HS
              go_enter Try.func62, Try.ntmps62
              go_wp2_with fail
              go_quiet (fail)
              go_wp2_with fail
              go_ret
              exact ⟨by rw [HF.out]; rfl, HE.out.trans (drewN_ext _ _)⟩
          · have e4 : (n1 : Int) < N := by omega
            have HF := Lib.hid (show codeG (vldG N Z n1 n2 n3 l) = 1 by rw [vldG_no (fun h => t4 (by have := h.2.2.2.2.1; omega))]; rfl)
            clear HS
            go_enter Try.func62, Try.ntmps62
            go_wp2_with fail
            go_quiet (fail)
            go_wp2_with fail
            go_ret
            exact ⟨by rw [HF.out]; rfl, HE.out.trans (drewN_ext _ _)⟩
        · have e3 : (10 : Int) < (n1 : Int) := by omega
          have HF := Lib.hid (show codeG (vldG N Z n1 n2 n3 l) = 1 by rw [vldG_no (fun h => t3 (by have := h.2.2.2.1; omega))]; rfl)
          clear HS
          go_enter Try.func62, Try.ntmps62
          go_wp2_with fail
          go_quiet (fail)
          go_wp2_with fail
          go_ret
          exact ⟨by rw [HF.out]; rfl, HE.out.trans (drewN_ext _ _)⟩
      · have e2 : (n1 : Int) < 1 := by omega
        have HF := Lib.hid (show codeG (vldG N Z n1 n2 n3 l) = 1 by rw [vldG_no (fun h => t2 (by have := h.2.2.1; omega))]; rfl)
        clear HS
        go_enter Try.func62, Try.ntmps62
        go_wp2_with fail
        go_quiet (fail)
        go_wp2_with fail
        go_ret
        exact ⟨by rw [HF.out]; rfl, HE.out.trans (drewN_ext _ _)⟩
    · have e1 : 7 < N := by omega
      have HF := Lib.hid (show codeG (vldG N Z n1 n2 n3 l) = 1 by rw [vldG_no (fun h => t1 (by have := h.2.1; omega))]; rfl)
      clear HS
      go_enter Try.func62, Try.ntmps62
      go_wp2_with fail
      go_quiet (fail)
      go_wp2_with fail
      go_ret
      exact ⟨by rw [HF.out]; rfl, HE.out.trans (drewN_ext _ _)⟩
  · have e0 : N < 1 := by omega
    have HF := Lib.hid (show codeG (vldG N Z n1 n2 n3 l) = 1 by rw [vldG_no (fun h => t0 (by have := h.1; omega))]; rfl)
    clear HS
    go_enter Try.func62, Try.ntmps62
    go_wp2_with fail
    go_quiet (fail)
    go_wp2_with fail
    go_ret
    exact ⟨by rw [HF.out]; rfl, HE.out.trans (drewN_ext _ _)⟩
end Go.Proofs.Ytfklmcfanhnfpaa
