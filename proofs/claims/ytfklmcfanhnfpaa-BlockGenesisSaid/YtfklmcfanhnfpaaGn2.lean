/- The reference's ValidGenesis. -/
import Derived.Test.YtfklmcfanhnfpaaGn1
namespace Go.Proofs.Ytfklmcfanhnfpaa
open Go.RowKit
set_option linter.unusedVariables false
set_option linter.unusedSimpArgs false
attribute [local go_sem ↓] Go.wp_at_zero Go.wp_at_succ

set_option maxRecDepth 100000 in
set_option maxHeartbeats 4000000 in
theorem refValGenesis_any (N Z : Int) (A1 : Option Addr) (n1 c1 : Nat) (A2 : Option Addr) (n2 c2 : Nat) (A3 : Option Addr) (n3 c3 : Nat) (l : List Int) (w : World) (hS : SlZ w A3 n3 c3 l) (hm1 : n1 ≤ 9223372036854775807) (hm2 : n2 ≤ 9223372036854775807) :
    Calls Try.prog 64 #[.agg (genC N Z A1 n1 c1 A2 n2 c2 A3 n3 c3)] w fun e w' => e = .returned (.bool (vldG N Z n1 n2 n3 l)) ∧ Ext w w' := by
  have hlen := hS.len
  have hle := hS.le
  have hcap := hS.cap
  have HE := Lib.hid ((Ext.refl w).alloc' (.cells (genC N Z A1 n1 c1 A2 n2 c2 A3 n3 c3) 50))
  have HB := Lib.hid (Blk.new w 50 (genC N Z A1 n1 c1 A2 n2 c2 A3 n3 c3))
  have HS := Lib.hid hS
  have HLEN := Lib.hid hlen
  clear hS hlen
  by_cases t0 : 1 ≤ N ∧ N ≤ 7
  · have HW0 := Lib.hid (within_yes N 1 7 t0)
    by_cases t1 : (1 : Int) ≤ (n1 : Int) ∧ (n1 : Int) ≤ 10
    · have HW1 := Lib.hid (within_yes (n1 : Int) 1 10 t1)
      by_cases t2 : N ≤ (n1 : Int)
      · have d2 : decide ((n1 : Int) < N) = false := decide_eq_false (by omega)
        by_cases t3 : (1 : Int) ≤ (n2 : Int) ∧ (n2 : Int) ≤ 16
        · have HW3 := Lib.hid (within_yes (n2 : Int) 1 16 t3)
          by_cases t4 : n3 = n2
          · subst t4
            by_cases t5 : 0 ≤ Z ∧ Z ≤ 1099511627776
            · have HW5 := Lib.hid (within_yes Z 0 1099511627776 t5)
              have HH := Lib.hid (show headG N Z n1 n3 n3 from ⟨t0.1, t0.2, by omega, by omega, t2, by omega, by omega, rfl, t5.1, t5.2⟩)
              obtain ⟨b, o, rfl, hr, hb⟩ := HS.out.at (by omega)
              have HR := Lib.hid hr
              have HBL := Lib.hid hb
              clear hr hb HS
              go_enter Try.func64, Try.ntmps64
              go_wp2_with (go_at_call 46; (first | (with_reducible refine (HW0.out _).mono ?_) | (with_reducible refine (HW1.out _).mono ?_) | (with_reducible refine (HW3.out _).mono ?_) | (with_reducible refine (HW5.out _).mono ?_) | fail "W"); rintro e wv ⟨rfl, rfl⟩)
              go_loopw [3] (fun i wr => ∃ q : Nat, q ≤ n3 ∧ i = .int .i64 (q : Int) ∧ Hid (∀ j, j < q → amtB (nthZ l j) = true) ∧ Ext (w.alloc (.cells (genC N Z A1 n1 c1 A2 n3 c2 (some ⟨b, o, none⟩) n3 c3) 50)) wr) (fun i _ => n3 - (intOf i).toNat)
              case atStart => exact ⟨0, Nat.zero_le _, rfl, Lib.hid (fun j hj => by omega), Ext.refl _⟩
              case round =>
                obtain ⟨q, hq, rfl, HP, hX⟩ := hrel
                have HX := Lib.hid hX
                have hra := rangeAt_keep HR.out ((HE.out.trans hX).block b HBL.out)
                have g4 : wr.cell? ⟨w.heap.size, 4, none⟩ = some (.slice (some ⟨b, o, none⟩) n3 c3) := (HB.out.ext hX).cell 4
                clear hX
                by_cases hlt : q < n3
                · have hid := int_at hra (k := q) (by rw [HLEN.out]; exact hlt)
                  have HQ := Lib.hid (fun (hx : amtB (nthZ l q) = true) => show ∀ j, j < q + 1 → amtB (nthZ l j) = true from fun j hj => by
                    rcases Nat.lt_or_ge j q with h | h
                    · exact HP.out j h
                    · obtain rfl : j = q := by omega
                      exact hx)
                  have HN := Lib.hid (fun (hx : amtB (nthZ l q) = false) => show vldG N Z n1 n3 n3 l = false by rw [vldG_at (by rw [HLEN.out]; exact hlt) hx])
                  have HA := Lib.hid (fun (W : World) => show Calls Try.prog 46 #[.int .i64 (nthZ l q), .int .i64 0, .int .i64 1099511627776] W (fun e w' => e = .returned (.bool (amtB (nthZ l q))) ∧ W = w') from within_any _ 0 1099511627776 W)
                  have i0 : (0 : Int) ≤ (q : Int) := by omega
                  have i1 : (q : Int) < (n3 : Int) := by omega
                  clear hra
                  rcases hx : amtB (nthZ l q) with _ | _
                  · have HXX := Lib.hid (HN.out hx)
                    simp only [hx] at HA
                    generalize nthZ l q = z at *
                    clear hx HN HQ
                    go_wp2_with fail
                    refine (HA.out _).mono ?_
                    rintro e wv ⟨rfl, rfl⟩
                    go_wp2_with fail
                    go_ret
                    exact ⟨by rw [HXX.out]; rfl, HE.out.trans HX.out⟩
                  · have HXX := Lib.hid (HQ.out hx)
                    simp only [hx] at HA
                    generalize nthZ l q = z at hid HA
                    clear hx HN HQ
                    go_wp2_with fail
                    refine (HA.out _).mono ?_
                    rintro e wv ⟨rfl, rfl⟩
                    go_wp2_with fail
                    go_roundw
                    case rel => exact ⟨q + 1, by omega, by go_num, HXX, HX.out⟩
                    case measure => simp [intOf]; omega
                · obtain rfl : q = n3 := by omega
                  have HF := Lib.hid (show vldG N Z n1 q q l = true by rw [vldG_yes HH.out (fun k hk => HP.out k (by rw [HLEN.out] at hk; exact hk))])
                  go_wp2_with fail
                  go_ret
                  exact ⟨by rw [HF.out]; rfl, HE.out.trans HX.out⟩
            · have HW5 := Lib.hid (within_no Z 0 1099511627776 (by omega))
              have HF := Lib.hid (show vldG N Z n1 n3 n3 l = false by rw [vldG_no (fun h => t5 ⟨h.2.2.2.2.2.2.2.2.1, h.2.2.2.2.2.2.2.2.2⟩)])
              clear HS
              go_enter Try.func64, Try.ntmps64
              go_wp2_with (go_at_call 46; (first | (with_reducible refine (HW0.out _).mono ?_) | (with_reducible refine (HW1.out _).mono ?_) | (with_reducible refine (HW3.out _).mono ?_) | (with_reducible refine (HW5.out _).mono ?_) | fail "W"); rintro e wv ⟨rfl, rfl⟩)
              go_ret
              exact ⟨by rw [HF.out]; rfl, HE.out⟩
          · have d4 : ((n3 : Int) != (n2 : Int)) = true := by simp; omega
            have d5 : ¬ (n3 : Int) = (n2 : Int) := by omega
            have HF := Lib.hid (show vldG N Z n1 n2 n3 l = false by rw [vldG_no (fun h => t4 h.2.2.2.2.2.2.2.1)])
            clear HS
            go_enter Try.func64, Try.ntmps64
            go_wp2_with (go_at_call 46; (first | (with_reducible refine (HW0.out _).mono ?_) | (with_reducible refine (HW1.out _).mono ?_) | (with_reducible refine (HW3.out _).mono ?_) | fail "W"); rintro e wv ⟨rfl, rfl⟩)
            go_ret
            exact ⟨by rw [HF.out]; rfl, HE.out⟩
        · have HW3 := Lib.hid (within_no (n2 : Int) 1 16 (by omega))
          have HF := Lib.hid (show vldG N Z n1 n2 n3 l = false by rw [vldG_no (fun h => t3 (by have := h.2.2.2.2.2.1; have := h.2.2.2.2.2.2.1; omega))])
          clear HS
          go_enter Try.func64, Try.ntmps64
          go_wp2_with (go_at_call 46; (first | (with_reducible refine (HW0.out _).mono ?_) | (with_reducible refine (HW1.out _).mono ?_) | (with_reducible refine (HW3.out _).mono ?_) | fail "W"); rintro e wv ⟨rfl, rfl⟩)
          go_ret
          exact ⟨by rw [HF.out]; rfl, HE.out⟩
      · have d2 : (n1 : Int) < N := by omega
        have HF := Lib.hid (show vldG N Z n1 n2 n3 l = false by rw [vldG_no (fun h => t2 h.2.2.2.2.1)])
        clear HS
        go_enter Try.func64, Try.ntmps64
        go_wp2_with (go_at_call 46; (first | (with_reducible refine (HW0.out _).mono ?_) | (with_reducible refine (HW1.out _).mono ?_) | fail "W"); rintro e wv ⟨rfl, rfl⟩)
        go_ret
        exact ⟨by rw [HF.out]; rfl, HE.out⟩
    · have HW1 := Lib.hid (within_no (n1 : Int) 1 10 (by omega))
      have HF := Lib.hid (show vldG N Z n1 n2 n3 l = false by rw [vldG_no (fun h => t1 (by have := h.2.2.1; have := h.2.2.2.1; omega))])
      clear HS
      go_enter Try.func64, Try.ntmps64
      go_wp2_with (go_at_call 46; (first | (with_reducible refine (HW0.out _).mono ?_) | (with_reducible refine (HW1.out _).mono ?_) | fail "W"); rintro e wv ⟨rfl, rfl⟩)
      go_ret
      exact ⟨by rw [HF.out]; rfl, HE.out⟩
  · have HW0 := Lib.hid (within_no N 1 7 (by omega))
    have HF := Lib.hid (show vldG N Z n1 n2 n3 l = false by rw [vldG_no (fun h => t0 ⟨h.1, h.2.1⟩)])
    clear HS
    go_enter Try.func64, Try.ntmps64
    go_wp2_with (go_at_call 46; (first | (with_reducible refine (HW0.out _).mono ?_) | fail "W"); rintro e wv ⟨rfl, rfl⟩)
    go_ret
    exact ⟨by rw [HF.out]; rfl, HE.out⟩
end Go.Proofs.Ytfklmcfanhnfpaa
