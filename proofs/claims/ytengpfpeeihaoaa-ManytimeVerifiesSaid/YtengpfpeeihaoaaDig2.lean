import Derived.Test.YtengpfpeeihaoaaDig
namespace Go.Proofs.Ytengpfpeeihaoaa
open Go.RowKit
set_option linter.unusedVariables false
set_option linter.unusedSimpArgs false
attribute [local go_sem ↓] Go.wp_at_zero Go.wp_at_succ

set_option maxRecDepth 100000 in
set_option maxHeartbeats 1000000 in
theorem refDigits_any (m : UInt64) (w : World) :
    Calls Try.prog 74 #[.agg (nmc m)] w fun e w' => ∃ g c, e = .returned (.slice (some ⟨g, 0, none⟩) 18 c) ∧ w'.rangeAt g 0 (ics (digs m)) ∧ w.heap.size ≤ g ∧ Ext w w' := by
  have hl := nmb_length m
  go_enter Try.func74, Try.ntmps74
  go_wp2_with fail
  go_loopw [3, 4, 5] (fun o s i wr => ∃ (k : Nat) (A : Option Addr) (c : Nat), k ≤ 8 ∧ i = .int .i64 (k : Int) ∧ s = .int .i64 ((240 - dsum ((nmb m).take k) : Nat) : Int) ∧ o = .slice A (2 * k) c ∧ wr.ownsRow (w.heap.size + 1) 3 1 (.slice A (2 * k) c) (2 * k) (ics (dg ((nmb m).take k))) ∧ Below (w.heap.size + 1) (w.alloc (.cells (nmc m) 61)) wr ∧ w.heap.size + 1 ≤ wr.heap.size) (fun _ _ i _ => 8 - (intOf i).toNat)
  case atStart => exact ⟨0, _, _, by omega, rfl, rfl, rfl, World.ownsRow_nil _ _ _ _, Below.refl _ _, by simp⟩
  case round =>
    obtain ⟨k, A, c, hk, rfl, rfl, rfl, hO, hB, hsz⟩ := hrel
    have hd : dsum ((nmb m).take k) ≤ 30 * k := by have := dsum_le ((nmb m).take k); rw [List.length_take, hl] at this; omega
    have hBm : Blk wr w.heap.size 61 (nmc m) := (Blk.new w _ _).below hB (by simp)
    by_cases hlt : k < 8
    · have hget := nmc_get m k hlt
      have hcell := (hBm.cell k).trans hget
      have hget' := Lib.hid hget
      clear hget
      have HT := Lib.hid (take_get (nmb m) k (by omega))
      have HD : Hid (dsum ((nmb m).take (k + 1)) = dsum ((nmb m).take k) + (((nmb m).getD k 0).toNat / 16 + ((nmb m).getD k 0).toNat % 16)) := Lib.hid (by rw [HT.out, dsum_append]; simp [dsum])
      have HG : Hid (dg ((nmb m).take (k + 1)) = dg ((nmb m).take k) ++ [((((nmb m).getD k 0).toNat / 16 : Nat) : Int), ((((nmb m).getD k 0).toNat % 16 : Nat) : Int)]) := Lib.hid (by rw [HT.out, dg_snoc])
      clear HT
      have ha := and15 ((nmb m).getD k 0)
      have hcb := ((nmb m).getD k 0).toNat_lt
      generalize (nmb m).getD k 0 = b at *
      generalize dsum ((nmb m).take k) = s at *
      generalize dg ((nmb m).take k) = d at *
      have hb16 : b.toNat / 16 + b.toNat % 16 ≤ 30 := by omega
      have hk8 : (k : Int) < 8 := by omega
      go_wp2_with fail
      have hcl : w.heap.size < wr.heap.size := hBm.lt
      have hO1 := (hO.alloc (.cells #[.int .i64 ((b.toNat : Int) / 16), .int .i64 ((b.toNat : Int) % 16)] 3))
      have hB1 := (Below.alloc hB hsz (.cells #[.int .i64 ((b.toNat : Int) / 16), .int .i64 ((b.toNat : Int) % 16)] 3)).drew
      have hR1 : Rd (wr.alloc (.cells #[.int .i64 ((b.toNat : Int) / 16), .int .i64 ((b.toNat : Int) % 16)] 3)).drew (some ⟨wr.heap.size, 0, none⟩) [.int .i64 ((b.toNat : Int) / 16), .int .i64 ((b.toNat : Int) % 16)] := Rd.new2 _ _ _ _ _ rfl
      have hne := World.new_ne wr ⟨w.heap.size, k, none⟩ hcell
      have q1 : ([.int .i64 ((b.toNat : Int) / 16), .int .i64 ((b.toNat : Int) % 16)] : List Value).length = 2 * 1 := rfl
      have q2 : ∀ u ∈ ([.int .i64 ((b.toNat : Int) / 16), .int .i64 ((b.toNat : Int) % 16)] : List Value), u.oneCell' = true := by simp [Value.oneCell']
      have q3 : (2 * k + 2) * 8 ≤ 140737488355328 := by omega
      have q4 : 2 * k + 2 ≤ 4611686018427387904 := by omega
      have q5 : w.heap.size + 1 ≤ (wr.alloc (.cells #[.int .i64 ((b.toNat : Int) / 16), .int .i64 ((b.toNat : Int) % 16)] 3)).drew.heap.size := by simp; omega
      have hO2 : (wr.alloc (.cells #[.int .i64 ((b.toNat : Int) / 16), .int .i64 ((b.toNat : Int) % 16)] 3)).drew.ownsRow (w.heap.size + 1) 3 1 (.slice A (2 * k) c) (2 * k) (ics d) := hO1
      have Q1 := Lib.hid q1
      have Q2 := Lib.hid q2
      have Q5 := Lib.hid q5
      clear q1 q2 q5
      have wd : IntKind.i64.wrap ((b.toNat : Int) / 16) = (b.toNat : Int) / 16 := by rw [IntKind.wrap_i64]; omega
      have wm : IntKind.i64.wrap ((b.toNat : Int) % 16) = (b.toNat : Int) % 16 := by rw [IntKind.wrap_i64]; omega
      go_region_held3 (fun w' => w'.cell? ⟨w.heap.size, k, none⟩ = some (.int .u8 (b.toNat : Int))) (first | go_keep | (exact ((Blk.new w _ _).below hw1 (by simp)).cell k |>.trans hget'.out)) ((refine step_app intsE rfl (.tmp 10) (.tmp 21) rfl (w.heap.size + 1) A (2 * k) c (ics d) (by rfl) hO2 (some ⟨wr.heap.size, 0, none⟩) 2 2 [.int .i64 ((b.toNat : Int) / 16), .int .i64 ((b.toNat : Int) % 16)] (by rfl) hR1 Q1.out Q2.out q3 q4 Q5.out (w.alloc (.cells (nmc m) 61)) hB1 ?_; intro A1 c1 w1 ho1 hw1 hs1))
      clear hcell hne hR1 hB1 hO1 hO2 Q1 Q2 Q5 q3 q4
      have hsz1 : w.heap.size + 1 ≤ w1.heap.size := by simp at hs1; omega
      have hBm1 : Blk w1 w.heap.size 61 (nmc m) := (Blk.new w _ _).below hw1 (by simp)
      have hcell := (hBm1.cell k).trans hget'.out
      have w1a : IntKind.i64.wrap (((240 - s : Nat) : Int) - (b.toNat : Int) / 16) = ((240 - s : Nat) : Int) - (b.toNat : Int) / 16 := by rw [IntKind.wrap_i64]; omega
      have w1b : IntKind.i64.wrap (((240 - s : Nat) : Int) - (b.toNat : Int) / 16 - (b.toNat : Int) % 16) = ((240 - s : Nat) : Int) - (b.toNat : Int) / 16 - (b.toNat : Int) % 16 := by rw [IntKind.wrap_i64]; omega
      go_wp2_with fail
      go_quiet (fail)
      go_wp2_with fail
      go_roundw
      case rel => exact ⟨k + 1, A1, c1, by omega, by go_num, by rw [HD.out]; congr 1; omega, by go_num, by rw [HG.out, ics_append]; exact ho1, below_drewN hw1 _, hsz1⟩
      case measure => simp [intOf]; omega
    · obtain rfl : k = 8 := by omega
      have HX : Hid (digs m = dg ((nmb m).take 8) ++ [(((240 - dsum ((nmb m).take 8)) / 16 : Nat) : Int), (((240 - dsum ((nmb m).take 8)) % 16 : Nat) : Int)]) := Lib.hid (by rw [List.take_of_length_le (by omega)]; rfl)
      generalize dsum ((nmb m).take 8) = s at *
      generalize dg ((nmb m).take 8) = d at *
      obtain ⟨r, hr⟩ : ∃ r, r = 240 - s := ⟨_, rfl⟩
      rw [← hr] at HX ⊢
      have hr2 : r ≤ 240 := by omega
      clear hr
      go_wp2_with (at_builtin; go_must (with_reducible refine wpList_app intsE rfl _ _ rfl (w.heap.size + 1) _ _ _ _ rfl (hO.alloc _) _ _ _ _ rfl (Rd.new2 _ _ _ _ _ rfl) ?l1 ?h1 ?b1 ?c1 ?d1 (w.alloc (.cells (nmc m) 61)) ?w1 ?_))
      case l1 => rfl
      case h1 => simp [Value.oneCell']
      case b1 => omega
      case c1 => omega
      case d1 => simp; omega
      case w1 => exact Below.alloc hB hsz _
      intro A1 c1 w1 ho1 hw1 hs1
      have ho2 : w1.ownsRow (w.heap.size + 1) 3 1 (.slice A1 18 c1) 18 (ics (digs m)) := by rw [HX.out, ics_append]; exact ho1
      obtain ⟨g, rfl, hg, hra⟩ := own_at ho2 (by omega)
      clear ho1 ho2
      go_wp2_with fail
      go_ret
      exact ⟨g, c1, rfl, hra, by omega, ((Ext.refl w).alloc' _).trans (by simpa [Ext] using hw1)⟩
end Go.Proofs.Ytengpfpeeihaoaa
