/- in; the two closures. -/
import Derived.Test.YtengpfpeeihaoaaNet3
namespace Go.Proofs.Ytengpfpeeihaoaa
open Go.RowKit
set_option linter.unusedVariables false
set_option linter.unusedSimpArgs false

/-- process p is in the group g -/
def inB (g p : Int) : Bool := bits .and .i64 (g / 2 ^ p.toNat) 1 == 1
set_option maxRecDepth 100000 in
set_option maxHeartbeats 2000000 in
theorem in_any (g p : Int) (hp : 0 ≤ p) (hp2 : p < 62) (w : World) :
    Calls Try.prog 49 #[.int .i64 g, .int .i64 p] w fun e w' => e = .returned (.bool (inB g p)) ∧ w = w' := by
  go_enter Try.func49, Try.ntmps49
  go_wp2_with fail
  go_ret
  exact ⟨rfl, rfl⟩
set_option maxRecDepth 100000 in
set_option maxHeartbeats 2000000 in
theorem refIn_any (g p : Int) (hp : 0 ≤ p) (hp2 : p < 62) (w : World) :
    Calls Try.prog 50 #[.int .i64 g, .int .i64 p] w fun e w' => e = .returned (.bool (inB g p)) ∧ w = w' := by
  go_enter Try.func50, Try.ntmps50
  go_wp2_with fail
  go_ret
  exact ⟨rfl, rfl⟩
/-- within the group; between the group and the others -/
def within (g f t : Int) : Bool := if inB g f then inB g t else false
def between (g f t : Int) : Bool := inB g f != inB g t
set_option maxRecDepth 100000 in
set_option maxHeartbeats 2000000 in
theorem flowFn_any (g f t : Int) (a : Option Addr) (m k B : Nat) (hf : 0 ≤ f) (hf2 : f < 62) (ht : 0 ≤ t) (ht2 : t < 62) (w : World) (hc : w.cell? ⟨B, 0, none⟩ = some (.int .i64 g)) (hB : B < w.heap.size) :
    Calls Try.prog 48 #[pcv f t a m k, .pointer (some ⟨B, 0, none⟩)] w fun e w' => e = .returned (.bool (within g f t)) ∧ Ext w w' := by
  have hne : ¬ B = w.heap.size := by omega
  have HW := Lib.hid (show within g f t = if inB g f then inB g t else false from rfl)
  rcases hx : inB g f with _ | _
  · rw [hx] at HW
    have hfin := Lib.hid (in_any g f hf hf2)
    rw [hx] at hfin
    go_enter Try.func48, Try.ntmps48
    go_wp2_with (go_at_call 49; refine (hfin.out _).mono ?_; rintro e w1 ⟨rfl, rfl⟩)
    go_ret
    exact ⟨by rw [HW.out]; rfl, (Ext.refl w).alloc' _⟩
  · rw [hx] at HW
    have hfin := Lib.hid (in_any g f hf hf2)
    rw [hx] at hfin
    have htin := Lib.hid (in_any g t ht ht2)
    have HW2 : within g f t = inB g t := HW.out
    rw [← HW2] at htin
    have HT := Lib.hid htin
    clear HW HW2 htin
    go_enter Try.func48, Try.ntmps48
    go_wp2_with fail
    refine (hfin.out _).mono ?_; rintro e w1 ⟨rfl, rfl⟩
    go_wp2_with fail
    refine (HT.out.out _).mono ?_; rintro e w1 ⟨rfl, rfl⟩
    go_wp2_with fail
    go_ret
    exact ⟨rfl, (Ext.refl w).alloc' _⟩
set_option maxRecDepth 100000 in
set_option maxHeartbeats 2000000 in
theorem discFn_any (g f t : Int) (a : Option Addr) (m k B : Nat) (hf : 0 ≤ f) (hf2 : f < 62) (ht : 0 ≤ t) (ht2 : t < 62) (w : World) (hc : w.cell? ⟨B, 0, none⟩ = some (.int .i64 g)) (hB : B < w.heap.size) :
    Calls Try.prog 51 #[pcv f t a m k, .pointer (some ⟨B, 0, none⟩)] w fun e w' => e = .returned (.bool (between g f t)) ∧ Ext w w' := by
  have hne : ¬ B = w.heap.size := by omega
  have HW := Lib.hid (show between g f t = (inB g f != inB g t) from rfl)
  have hfin := Lib.hid (in_any g f hf hf2)
  have htin := Lib.hid (in_any g t ht ht2)
  generalize inB g f = x at *
  generalize inB g t = y at *
  go_enter Try.func51, Try.ntmps51
  go_wp2_with fail
  go_quiet (first | (go_at_call 49; refine Calls.quiet_of_same ((hfin.out _).mono fun _ _ h => ⟨h.1, h.2.symm⟩)) | (go_at_call 49; refine Calls.quiet_of_same ((htin.out _).mono fun _ _ h => ⟨h.1, h.2.symm⟩)))
  go_wp2_with fail
  go_ret
  exact ⟨by rw [HW.out]; rfl, below_drewN ((Ext.refl w).alloc' _) _⟩
end Go.Proofs.Ytengpfpeeihaoaa
