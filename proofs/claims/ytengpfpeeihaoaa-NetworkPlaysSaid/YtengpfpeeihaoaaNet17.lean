/- Send where it refuses, Discard; 'same' of the law. -/
import Derived.Test.YtengpfpeeihaoaaR1
namespace Go.Proofs.Ytengpfpeeihaoaa
open Go.RowKit
set_option linter.unusedVariables false
set_option linter.unusedSimpArgs false

/-- both ends of a parcel are numbers below p -/
def sendable (p f t : Int) : Prop := 0 ≤ f ∧ f < p ∧ 0 ≤ t ∧ t < p
set_option maxRecDepth 100000 in
set_option maxHeartbeats 2000000 in
theorem send_no (base b : Nat) (p : Int) (A : Option Addr) (n c : Nat) (L : List Pc) (f t : Int) (a : Option Addr) (m k : Nat) (w : World)
    (hN : Net w base b p A n c L) (hno : ¬ sendable p f t) :
    Calls Try.prog 20 #[.pointer (some ⟨b, 0, none⟩), pcv f t a m k] w fun e w' => e = .returned (.int .i64 1) ∧ Ext w w' := by
  have hE0 : Ext w (w.alloc (.cells (pcs f t a m k) 35)) := (Ext.refl w).alloc' _
  have hbx := Blk.new w 35 (pcs f t a m k)
  have hNe := hN.ext hE0
  have HB := Lib.hid hNe.blk
  have HX := Lib.hid hbx
  clear hN hNe hbx
  by_cases h1 : f < 0
  · have e1 : decide (f < 0) = true := decide_eq_true h1
    clear hno
    go_enter Try.func20, Try.ntmps20
    go_wp2_with fail
    generalize w.alloc (.cells (pcs f t a m k) 35) = W0 at *
    have c0 : W0.cell? ⟨b, 0, none⟩ = some (.int .i64 p) := HB.out.cell 0
    have d0 : W0.cell? ⟨w.heap.size, 0, none⟩ = some (.int .i64 f) := HX.out.cell 0
    have d1 : W0.cell? ⟨w.heap.size, 1, none⟩ = some (.int .i64 t) := HX.out.cell 1
    go_quiet (fail)
    go_wp2_with fail
    go_ret
    exact ⟨rfl, below_drewN hE0 _⟩
  · have e1 : decide (f < 0) = false := decide_eq_false h1
    by_cases h2 : p ≤ f
    · have e2 : decide (p ≤ f) = true := decide_eq_true h2
      clear hno
      go_enter Try.func20, Try.ntmps20
      go_wp2_with fail
      generalize w.alloc (.cells (pcs f t a m k) 35) = W0 at *
      have c0 : W0.cell? ⟨b, 0, none⟩ = some (.int .i64 p) := HB.out.cell 0
      have d0 : W0.cell? ⟨w.heap.size, 0, none⟩ = some (.int .i64 f) := HX.out.cell 0
      have d1 : W0.cell? ⟨w.heap.size, 1, none⟩ = some (.int .i64 t) := HX.out.cell 1
      go_quiet (fail)
      go_wp2_with fail
      go_ret
      exact ⟨rfl, below_drewN hE0 _⟩
    · have e2 : decide (p ≤ f) = false := decide_eq_false h2
      by_cases h3 : t < 0
      · have e3 : decide (t < 0) = true := decide_eq_true h3
        clear hno
        go_enter Try.func20, Try.ntmps20
        go_wp2_with fail
        generalize w.alloc (.cells (pcs f t a m k) 35) = W0 at *
        have c0 : W0.cell? ⟨b, 0, none⟩ = some (.int .i64 p) := HB.out.cell 0
        have d0 : W0.cell? ⟨w.heap.size, 0, none⟩ = some (.int .i64 f) := HX.out.cell 0
        have d1 : W0.cell? ⟨w.heap.size, 1, none⟩ = some (.int .i64 t) := HX.out.cell 1
        go_quiet (fail)
        go_wp2_with fail
        go_ret
        exact ⟨rfl, below_drewN hE0 _⟩
      · have e3 : decide (t < 0) = false := decide_eq_false h3
        have h4 : p ≤ t := by
          unfold sendable at hno
          rcases Int.lt_or_le t p with h | h
          · exact absurd ⟨by omega, by omega, by omega, h⟩ hno
          · exact h
        have e4 : decide (p ≤ t) = true := decide_eq_true h4
        clear hno
        go_enter Try.func20, Try.ntmps20
        go_wp2_with fail
        generalize w.alloc (.cells (pcs f t a m k) 35) = W0 at *
        have c0 : W0.cell? ⟨b, 0, none⟩ = some (.int .i64 p) := HB.out.cell 0
        have d0 : W0.cell? ⟨w.heap.size, 0, none⟩ = some (.int .i64 f) := HX.out.cell 0
        have d1 : W0.cell? ⟨w.heap.size, 1, none⟩ = some (.int .i64 t) := HX.out.cell 1
        go_quiet (fail)
        go_wp2_with fail
        go_ret
        exact ⟨rfl, below_drewN hE0 _⟩
set_option maxRecDepth 100000 in
set_option maxHeartbeats 2000000 in
theorem rsend_no (base b : Nat) (p : Int) (A : Option Addr) (n c : Nat) (L : List Pc) (f t : Int) (a : Option Addr) (m k : Nat) (w : World)
    (hN : RNet w base b p A n c L) (hno : ¬ sendable p f t) :
    Calls Try.prog 27 #[.pointer (some ⟨b, 0, none⟩), pcv f t a m k] w fun e w' => e = .returned (.int .i64 1) ∧ Ext w w' := by
  have hE0 : Ext w (w.alloc (.cells (pcs f t a m k) 48)) := (Ext.refl w).alloc' _
  have hbx := Blk.new w 48 (pcs f t a m k)
  have hNe := hN.ext hE0
  have HB := Lib.hid hNe.blk
  have HX := Lib.hid hbx
  clear hN hNe hbx
  by_cases h1 : f < 0
  · have e1 : decide (f < 0) = true := decide_eq_true h1
    clear hno
    go_enter Try.func27, Try.ntmps27
    go_wp2_with fail
    generalize w.alloc (.cells (pcs f t a m k) 48) = W0 at *
    have c0 : W0.cell? ⟨b, 0, none⟩ = some (.int .i64 p) := HB.out.cell 0
    have d0 : W0.cell? ⟨w.heap.size, 0, none⟩ = some (.int .i64 f) := HX.out.cell 0
    have d1 : W0.cell? ⟨w.heap.size, 1, none⟩ = some (.int .i64 t) := HX.out.cell 1
    go_quiet (fail)
    go_wp2_with fail
    go_ret
    exact ⟨rfl, below_drewN hE0 _⟩
  · have e1 : decide (f < 0) = false := decide_eq_false h1
    by_cases h2 : p ≤ f
    · have e2 : decide (p ≤ f) = true := decide_eq_true h2
      clear hno
      go_enter Try.func27, Try.ntmps27
      go_wp2_with fail
      generalize w.alloc (.cells (pcs f t a m k) 48) = W0 at *
      have c0 : W0.cell? ⟨b, 0, none⟩ = some (.int .i64 p) := HB.out.cell 0
      have d0 : W0.cell? ⟨w.heap.size, 0, none⟩ = some (.int .i64 f) := HX.out.cell 0
      have d1 : W0.cell? ⟨w.heap.size, 1, none⟩ = some (.int .i64 t) := HX.out.cell 1
      go_quiet (fail)
      go_wp2_with fail
      go_ret
      exact ⟨rfl, below_drewN hE0 _⟩
    · have e2 : decide (p ≤ f) = false := decide_eq_false h2
      by_cases h3 : t < 0
      · have e3 : decide (t < 0) = true := decide_eq_true h3
        clear hno
        go_enter Try.func27, Try.ntmps27
        go_wp2_with fail
        generalize w.alloc (.cells (pcs f t a m k) 48) = W0 at *
        have c0 : W0.cell? ⟨b, 0, none⟩ = some (.int .i64 p) := HB.out.cell 0
        have d0 : W0.cell? ⟨w.heap.size, 0, none⟩ = some (.int .i64 f) := HX.out.cell 0
        have d1 : W0.cell? ⟨w.heap.size, 1, none⟩ = some (.int .i64 t) := HX.out.cell 1
        go_quiet (fail)
        go_wp2_with fail
        go_ret
        exact ⟨rfl, below_drewN hE0 _⟩
      · have e3 : decide (t < 0) = false := decide_eq_false h3
        have h4 : p ≤ t := by
          unfold sendable at hno
          rcases Int.lt_or_le t p with h | h
          · exact absurd ⟨by omega, by omega, by omega, h⟩ hno
          · exact h
        have e4 : decide (p ≤ t) = true := decide_eq_true h4
        clear hno
        go_enter Try.func27, Try.ntmps27
        go_wp2_with fail
        generalize w.alloc (.cells (pcs f t a m k) 48) = W0 at *
        have c0 : W0.cell? ⟨b, 0, none⟩ = some (.int .i64 p) := HB.out.cell 0
        have d0 : W0.cell? ⟨w.heap.size, 0, none⟩ = some (.int .i64 f) := HX.out.cell 0
        have d1 : W0.cell? ⟨w.heap.size, 1, none⟩ = some (.int .i64 t) := HX.out.cell 1
        go_quiet (fail)
        go_wp2_with fail
        go_ret
        exact ⟨rfl, below_drewN hE0 _⟩
set_option maxRecDepth 100000 in
set_option maxHeartbeats 2000000 in
theorem discard_any (grp : Int) (base b : Nat) (p : Int) (A : Option Addr) (n c : Nat) (L : List Pc) (w : World) (hN : Net w base b p A n c L) (hL : ∀ x ∈ L, x.ok) (hn : n ≤ 4096) :
    Calls Try.prog 34 #[.pointer (some ⟨b, 0, none⟩), .int .i64 grp] w fun e w' => ∃ m,
      e = .returned (.int .i64 ((L.filter (fun x => between grp x.f x.t)).length : Int)) ∧ Net w' base b p A m c (L.filter (fun x => !between grp x.f x.t)) ∧ Below base w w' ∧ Kept w w' b (Value.ownBlock (.slice A n c)) := by
  have eg : ∀ args w, (callFunc 51 args).run Try.prog w = .ok (.enter 51 args) w := fun args w => by kernel_rfl
  have hE : Ext w (w.alloc (.cells #[.int .i64 grp] 3)) := (Ext.refl w).alloc' _
  have hbx := Blk.new w 3 #[.int .i64 grp]
  have hlt := hN.blk.lt
  have hrow := row_lt hN.own
  have hF := Lib.hid (filter_any _ w.heap.size eg (fun x => between grp x.f x.t) base b p A n c L _ (hN.ext hE) grp (fitsDisc _ grp L hL) (hbx.cell 0) hbx.lt (by omega) (fun hh => by have := hrow _ hh; omega) hn)
  go_enter Try.func34, Try.ntmps34
  go_wp2_with fail
  refine hF.out.mono ?_
  rintro e w1 ⟨A1, m1, c1, m, rfl, hO, hN1, hB1, hK⟩
  have hm1 : m1 = (L.filter (fun x => between grp x.f x.t)).length := by have := hO.1; rw [rowP_length] at this; omega
  have hm2 := Lib.hid hm1
  clear hm1 hF
  go_wp2_with fail
  go_ret
  refine ⟨m, by rw [← hm2.out]; rfl, hN1, Below.trans (hE.mono (by have := hN.le; omega)) hB1, ⟨Nat.le_trans hE.size hK.size, fun k hk hkb hkr => (hK.block k (by have := hE.size; omega) hkb hkr).trans (hE.block k hk)⟩⟩
set_option maxRecDepth 100000 in
set_option maxHeartbeats 2000000 in
theorem same_any (f t : Int) (a a' : Option Addr) (m m' k k' : Nat) (l : List UInt8) (w : World) (hs : SlB w a m k l) (hs' : SlB w a' m' k' l) :
    Calls Try.prog 29 #[pcv f t a m k, pcv f t a' m' k'] w fun e w' => e = .returned (.bool true) ∧ Ext w w' := by
  have hE := ((Ext.refl w).alloc' (.cells (pcs f t a m k) 35)).alloc' (.cells (pcs f t a' m' k') 48)
  have s1 := run_str (hs.ext hE)
  have s2 := run_str (hs'.ext hE)
  go_enter Try.func29, Try.ntmps29
  go_wp2_with fail
  go_ret
  exact ⟨rfl, hE⟩
end Go.Proofs.Ytengpfpeeihaoaa
