/- law39's own sanity check. -/
import Derived.Test.YtengpfpeeihaoaaNet10
namespace Go.Proofs.Ytengpfpeeihaoaa
open Go.RowKit
set_option linter.unusedVariables false
set_option linter.unusedSimpArgs false

set_option maxRecDepth 100000 in
set_option maxHeartbeats 2000000 in
theorem awake39_any (w : World) :
    Calls Try.prog 18 #[] w fun e w' => e = .returned (.bool true) ∧ Ext w w' := by
  go_enter Try.func18, Try.ntmps18
  go_wp2_with fail
  refine (new_any 3 _).mono ?_
  rintro e w1 ⟨rfl, hb1, he1⟩
  rw [show procs 3 = 3 from rfl] at hb1
  have hN1 : Net w1 w.heap.size w.heap.size 3 none 0 0 [] := ⟨Nat.le_refl _, hb1, World.ownsRow_nil _ _ _ 3⟩
  go_wp2_with fail
  refine (send_ok _ _ _ _ _ _ _ 0 1 none 0 0 [] w1 hN1 (SlB.nil _) (by omega) (by omega) (by omega) (by omega) (by omega) (by omega)).mono ?_
  rintro e w2 ⟨a2, k2, A2, c2, rfl, hN2, _, hB2, _⟩
  go_wp2_with fail
  refine (send_ok _ _ _ _ _ _ _ 0 2 none 0 0 [] w2 hN2 (SlB.nil _) (by omega) (by omega) (by omega) (by omega) (by omega) (by omega)).mono ?_
  rintro e w3 ⟨a3, k3, A3, c3, rfl, hN3, _, hB3, _⟩
  go_wp2_with fail
  refine (flow_any 3 _ _ _ _ _ _ _ w3 hN3 (by intro x hx; simp at hx; rcases hx with rfl | rfl <;> simp [Pc.ok]) (by omega)).mono ?_
  rintro e w4 ⟨A4, m4, c4, m, rfl, hO4, hN4, hB4, _⟩
  have hw1 : within 3 0 1 = true := by kernel_rfl
  have hw2 : within 3 0 2 = false := by kernel_rfl
  have hm4 : m4 = 1 := by have := hO4.1; rw [rowP_length] at this; simp [hw1, hw2] at this; omega
  have hm : m = 1 := by have := hN4.len; simp [hw1, hw2] at this; omega
  subst hm4; subst hm
  go_wp2_with fail
  refine (len_any _ _ _ _ _ _ _ w4 hN4).mono ?_
  rintro e w5 ⟨rfl, rfl⟩
  go_wp2_with fail
  go_ret
  exact ⟨rfl, Below.trans he1 (Below.trans hB2 (Below.trans hB3 hB4))⟩
end Go.Proofs.Ytengpfpeeihaoaa
