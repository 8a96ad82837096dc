/- NetworkNil: the walk of the law. -/
import Derived.Test.YtengpfpeeihaoaaNet11
namespace Go.Proofs.Ytengpfpeeihaoaa
open Go.RowKit
set_option linter.unusedVariables false
set_option linter.unusedSimpArgs false

set_option maxRecDepth 100000 in
set_option maxHeartbeats 2000000 in
theorem netNil_any (i0 i1 i2 i3 : Int) (y : Int) (f t : Int) (a : Option Addr) (n c : Nat) (w : World) :
    Calls Try.prog 6 #[.agg #[.int .i64 i0, .int .i64 i1, .int .i64 i2, .int .i64 i3, .int .u8 y, .int .i64 f, .int .i64 t, .slice a n c]] w fun e w' => e = .returned (.bool true) ∧ Ext w w' := by
  go_enter Try.func6, Try.ntmps6
  have hE0 : Ext w (w.alloc (.cells #[.int .i64 i0, .int .i64 i1, .int .i64 i2, .int .i64 i3, .int .u8 y, .int .i64 f, .int .i64 t, .slice a n c] 46)) := (Ext.refl w).alloc' _
  have hb0 := Blk.new w 46 #[.int .i64 i0, .int .i64 i1, .int .i64 i2, .int .i64 i3, .int .u8 y, .int .i64 f, .int .i64 t, .slice a n c]
  go_wp2_with fail
  refine (get_nil i1 _).mono ?_
  rintro e w1 ⟨rfl, he1⟩
  have hb1 := (hb0.ext he1).alloc (.cells (pcs 0 0 none 0 0) 35)
  have hE1 := (hE0.trans he1).alloc' (.cells (pcs 0 0 none 0 0) 35)
  have z0 : (w1.alloc (.cells (pcs 0 0 none 0 0) 35)).cell? ⟨w.heap.size, 0, none⟩ = some (.int .i64 i0) := hb1.cell 0
  have z1 : (w1.alloc (.cells (pcs 0 0 none 0 0) 35)).cell? ⟨w.heap.size, 1, none⟩ = some (.int .i64 i1) := hb1.cell 1
  have z2 : (w1.alloc (.cells (pcs 0 0 none 0 0) 35)).cell? ⟨w.heap.size, 2, none⟩ = some (.int .i64 i2) := hb1.cell 2
  have z3 : (w1.alloc (.cells (pcs 0 0 none 0 0) 35)).cell? ⟨w.heap.size, 3, none⟩ = some (.int .i64 i3) := hb1.cell 3
  have z4 : (w1.alloc (.cells (pcs 0 0 none 0 0) 35)).cell? ⟨w.heap.size, 4, none⟩ = some (.int .u8 y) := hb1.cell 4
  have z5 : (w1.alloc (.cells (pcs 0 0 none 0 0) 35)).cell? ⟨w.heap.size, 5, none⟩ = some (.int .i64 f) := hb1.cell 5
  have z6 : (w1.alloc (.cells (pcs 0 0 none 0 0) 35)).cell? ⟨w.heap.size, 6, none⟩ = some (.int .i64 t) := hb1.cell 6
  have z7 : (w1.alloc (.cells (pcs 0 0 none 0 0) 35)).cell? ⟨w.heap.size, 7, none⟩ = some (.slice a n c) := hb1.cell 7
  go_wp2_with fail
  refine (take_nil i1 _).mono ?_
  rintro e w2 ⟨rfl, he2⟩
  have hb2 := (hb1.ext he2).alloc (.cells (pcs 0 0 none 0 0) 35)
  have hE2 := (hE1.trans he2).alloc' (.cells (pcs 0 0 none 0 0) 35)
  clear z0 z1 z2 z3 z4 z5 z6 z7
  have z0 : (w2.alloc (.cells (pcs 0 0 none 0 0) 35)).cell? ⟨w.heap.size, 0, none⟩ = some (.int .i64 i0) := hb2.cell 0
  have z1 : (w2.alloc (.cells (pcs 0 0 none 0 0) 35)).cell? ⟨w.heap.size, 1, none⟩ = some (.int .i64 i1) := hb2.cell 1
  have z2 : (w2.alloc (.cells (pcs 0 0 none 0 0) 35)).cell? ⟨w.heap.size, 2, none⟩ = some (.int .i64 i2) := hb2.cell 2
  have z3 : (w2.alloc (.cells (pcs 0 0 none 0 0) 35)).cell? ⟨w.heap.size, 3, none⟩ = some (.int .i64 i3) := hb2.cell 3
  have z4 : (w2.alloc (.cells (pcs 0 0 none 0 0) 35)).cell? ⟨w.heap.size, 4, none⟩ = some (.int .u8 y) := hb2.cell 4
  have z5 : (w2.alloc (.cells (pcs 0 0 none 0 0) 35)).cell? ⟨w.heap.size, 5, none⟩ = some (.int .i64 f) := hb2.cell 5
  have z6 : (w2.alloc (.cells (pcs 0 0 none 0 0) 35)).cell? ⟨w.heap.size, 6, none⟩ = some (.int .i64 t) := hb2.cell 6
  have z7 : (w2.alloc (.cells (pcs 0 0 none 0 0) 35)).cell? ⟨w.heap.size, 7, none⟩ = some (.slice a n c) := hb2.cell 7
  go_wp2_with fail
  refine (send_nil _ ⟨f, t, a, n, c, rfl⟩ _).mono ?_
  rintro e w3 ⟨rfl, he3⟩
  have hb3 := hb2.ext he3
  have hE3 := hE2.trans he3
  clear z0 z1 z2 z3 z4 z5 z6 z7
  have z0 : (w3).cell? ⟨w.heap.size, 0, none⟩ = some (.int .i64 i0) := hb3.cell 0
  have z1 : (w3).cell? ⟨w.heap.size, 1, none⟩ = some (.int .i64 i1) := hb3.cell 1
  have z2 : (w3).cell? ⟨w.heap.size, 2, none⟩ = some (.int .i64 i2) := hb3.cell 2
  have z3 : (w3).cell? ⟨w.heap.size, 3, none⟩ = some (.int .i64 i3) := hb3.cell 3
  have z4 : (w3).cell? ⟨w.heap.size, 4, none⟩ = some (.int .u8 y) := hb3.cell 4
  have z5 : (w3).cell? ⟨w.heap.size, 5, none⟩ = some (.int .i64 f) := hb3.cell 5
  have z6 : (w3).cell? ⟨w.heap.size, 6, none⟩ = some (.int .i64 t) := hb3.cell 6
  have z7 : (w3).cell? ⟨w.heap.size, 7, none⟩ = some (.slice a n c) := hb3.cell 7
  go_wp2_with fail
  refine (len_nil _).mono ?_
  rintro e w9 ⟨rfl, rfl⟩
  go_wp2_with fail
  refine (duplicate_nil i1 _).mono ?_
  rintro e w9 ⟨rfl, rfl⟩
  go_wp2_with fail
  refine (corrupt_nil i1 i2 y _).mono ?_
  rintro e w9 ⟨rfl, rfl⟩
  go_wp2_with fail
  refine (flow_nil i3 _).mono ?_
  rintro e w4 ⟨rfl, he4⟩
  have hb4 := hb3.ext he4
  have hE4 := hE3.trans he4
  clear z0 z1 z2 z3 z4 z5 z6 z7
  have z0 : (w4).cell? ⟨w.heap.size, 0, none⟩ = some (.int .i64 i0) := hb4.cell 0
  have z1 : (w4).cell? ⟨w.heap.size, 1, none⟩ = some (.int .i64 i1) := hb4.cell 1
  have z2 : (w4).cell? ⟨w.heap.size, 2, none⟩ = some (.int .i64 i2) := hb4.cell 2
  have z3 : (w4).cell? ⟨w.heap.size, 3, none⟩ = some (.int .i64 i3) := hb4.cell 3
  have z4 : (w4).cell? ⟨w.heap.size, 4, none⟩ = some (.int .u8 y) := hb4.cell 4
  have z5 : (w4).cell? ⟨w.heap.size, 5, none⟩ = some (.int .i64 f) := hb4.cell 5
  have z6 : (w4).cell? ⟨w.heap.size, 6, none⟩ = some (.int .i64 t) := hb4.cell 6
  have z7 : (w4).cell? ⟨w.heap.size, 7, none⟩ = some (.slice a n c) := hb4.cell 7
  go_wp2_with fail
  refine (discard_nil i3 _).mono ?_
  rintro e w5 ⟨rfl, he5⟩
  go_wp2_with fail
  refine (awake39_any _).mono ?_
  rintro e w6 ⟨rfl, he6⟩
  go_wp2_with fail
  go_ret
  exact ⟨rfl, (hE4.trans he5).trans he6⟩
end Go.Proofs.Ytengpfpeeihaoaa
