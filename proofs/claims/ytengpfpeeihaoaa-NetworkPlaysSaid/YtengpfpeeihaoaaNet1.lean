/- The network: what every call does at a nil network; New; in. -/
import Derived.Test.YtengpfpeeihaoaaOwn
namespace Go.Proofs.Ytengpfpeeihaoaa
open Go.RowKit
set_option linter.unusedVariables false
set_option linter.unusedSimpArgs false

/-- a parcel as a value -/
abbrev pcv (f t : Int) (a : Option Addr) (n c : Nat) : Value := .agg #[.int .i64 f, .int .i64 t, .slice a n c]

set_option maxHeartbeats 1000000 in
theorem len_nil (w : World) : Calls Try.prog 25 #[.pointer none] w fun e w' => e = .returned (.int .i64 0) ∧ w = w' := by
  go_enter Try.func25, Try.ntmps25
  go_wp2_with fail
  go_ret
  exact ⟨rfl, rfl⟩
abbrev pcs (f t : Int) (a : Option Addr) (n c : Nat) : Array Value := #[.int .i64 f, .int .i64 t, .slice a n c]
theorem sizeP (f t : Int) (a : Option Addr) (n c : Nat) : (Try.prog.info? 35).map (·.size) = some (pcs f t a n c).size := by show _ = some 3; kernel_rfl
theorem retP {fn : Func} {p : Tmp} (hres : fn.results = #[.cell p 35]) (tmps : Array Value) (w1 : World) (g : Nat) (f t : Int) (a : Option Addr) (n c : Nat) (hp : tmps.getD p undef = .pointer (some ⟨g, 0, none⟩)) (hb : Blk w1 g 35 (pcs f t a n c)) :
    (results fn tmps).run Try.prog w1 = .ok (pcv f t a n c) w1 :=
  results_cell_row hres tmps w1 g 35 (pcs f t a n c) (0, 0) _ hp hb Try.underlying35 rfl (sizeP f t a n c)
theorem retPV {fn : Func} {p q : Tmp} (hres : fn.results = #[.cell p 35, .tmp q]) (tmps : Array Value) (w1 : World) (g : Nat) (f t : Int) (a : Option Addr) (n c : Nat) (v : Value) (hp : tmps.getD p undef = .pointer (some ⟨g, 0, none⟩)) (hq : tmps.getD q undef = v) (hb : Blk w1 g 35 (pcs f t a n c)) :
    (results fn tmps).run Try.prog w1 = .ok (.tuple #[pcv f t a n c, v]) w1 := by
  have hp' : tmps[p]?.getD undef = .pointer (some ⟨g, 0, none⟩) := by simpa using hp
  have hq' : tmps[q]?.getD undef = v := by simpa using hq
  simp [results, hres, hp', hq', asAddr, run_loadVar_row w1 g 35 35 (pcs f t a n c) (0, 0) _ hb Try.underlying35 rfl (sizeP f t a n c)]
set_option maxHeartbeats 1000000 in
theorem get_nil (i : Int) (w : World) : Calls Try.prog 21 #[.pointer none, .int .i64 i] w fun e w' => e = .returned (.tuple #[pcv 0 0 none 0 0, .bool false]) ∧ Ext w w' := by
  by_cases hi : i < 0
  · go_enter Try.func21, Try.ntmps21
    go_wp2_with (go_at_call 25; refine (len_nil _).mono ?_; rintro e w1 ⟨rfl, rfl⟩)
    refine bodyPost_ret (v := .tuple #[pcv 0 0 none 0 0, .bool false]) (retPV rfl _ _ w.heap.size 0 0 none 0 0 _ rfl rfl (Blk.new _ _ _)) rfl ⟨rfl, (Ext.refl w).alloc' _⟩
  · have hi0 : (0 : Int) ≤ i := by omega
    go_enter Try.func21, Try.ntmps21
    go_wp2_with (go_at_call 25; refine (len_nil _).mono ?_; rintro e w1 ⟨rfl, rfl⟩)
    refine bodyPost_ret (v := .tuple #[pcv 0 0 none 0 0, .bool false]) (retPV rfl _ _ w.heap.size 0 0 none 0 0 _ rfl rfl (Blk.new _ _ _)) rfl ⟨rfl, (Ext.refl w).alloc' _⟩
set_option maxHeartbeats 1000000 in
theorem take_nil (i : Int) (w : World) : Calls Try.prog 24 #[.pointer none, .int .i64 i] w fun e w' => e = .returned (.tuple #[pcv 0 0 none 0 0, .bool false]) ∧ Ext w w' := by
  go_enter Try.func24, Try.ntmps24
  go_wp2_with fail
  refine (get_nil i _).mono ?_
  rintro e w1 ⟨rfl, he⟩
  have hb0 := (Blk.new w 35 (pcs 0 0 none 0 0)).ext he
  have hlt := hb0.lt
  have hne : ¬ w.heap.size = w1.heap.size := by omega
  have c0 : w1.cell? ⟨w.heap.size, 0, none⟩ = some (.int .i64 0) := hb0.cell 0
  have c1 : w1.cell? ⟨w.heap.size, 1, none⟩ = some (.int .i64 0) := hb0.cell 1
  have c2 : w1.cell? ⟨w.heap.size, 2, none⟩ = some (.slice none 0 0) := hb0.cell 2
  have f0 := hb0.frozen 0
  have f1 := hb0.frozen 1
  have f2 := hb0.frozen 2
  go_wp2_with fail
  have hE := ((Ext.refl w).alloc' _).trans he
  refine bodyPost_ret (v := .tuple #[pcv 0 0 none 0 0, .bool false]) (retPV rfl _ _ w.heap.size 0 0 none 0 0 _ rfl rfl ((((hb0.set 0 _).set 1 _).set 2 _).alloc _)) rfl ⟨rfl, Ext.alloc' (Below.setCell (Below.setCell (Below.setCell hE (Nat.le_refl _) _) (Nat.le_refl _) _) (Nat.le_refl _) _) _⟩
set_option maxHeartbeats 1000000 in
theorem send_nil (v : Value) (hv : ∃ f t a n c, v = pcv f t a n c) (w : World) : Calls Try.prog 20 #[.pointer none, v] w fun e w' => e = .returned (.int .i64 1) ∧ Ext w w' := by
  obtain ⟨f, t, a, n, c, rfl⟩ := hv
  go_enter Try.func20, Try.ntmps20
  go_wp2_with fail
  go_quiet (fail)
  go_wp2_with fail
  go_ret
  exact ⟨rfl, below_drewN ((Ext.refl w).alloc' _) _⟩
set_option maxHeartbeats 1000000 in
theorem duplicate_nil (i : Int) (w : World) : Calls Try.prog 22 #[.pointer none, .int .i64 i] w fun e w' => e = .returned (.int .i64 1) ∧ w = w' := by
  go_enter Try.func22, Try.ntmps22
  go_wp2_with fail
  go_ret
  exact ⟨rfl, rfl⟩
set_option maxHeartbeats 1000000 in
theorem corrupt_nil (i j k : Int) (w : World) : Calls Try.prog 23 #[.pointer none, .int .i64 i, .int .i64 j, .int .u8 k] w fun e w' => e = .returned (.int .i64 1) ∧ w = w' := by
  go_enter Try.func23, Try.ntmps23
  go_wp2_with fail
  go_ret
  exact ⟨rfl, rfl⟩
set_option maxHeartbeats 1000000 in
theorem filter_nil (v : Value) (w : World) : Calls Try.prog 47 #[.pointer none, v] w fun e w' => e = .returned (.slice none 0 0) ∧ w = w' := by
  go_enter Try.func47, Try.ntmps47
  go_wp2_with fail
  go_ret
  exact ⟨rfl, rfl⟩
set_option maxHeartbeats 1000000 in
theorem flow_nil (i : Int) (w : World) : Calls Try.prog 32 #[.pointer none, .int .i64 i] w fun e w' => e = .returned (.slice none 0 0) ∧ Ext w w' := by
  go_enter Try.func32, Try.ntmps32
  go_wp2_with (go_at_call 47; refine (filter_nil _ _).mono ?_; rintro e w1 ⟨rfl, rfl⟩)
  go_ret
  exact ⟨rfl, (Ext.refl w).alloc' _⟩
set_option maxHeartbeats 1000000 in
theorem discard_nil (i : Int) (w : World) : Calls Try.prog 34 #[.pointer none, .int .i64 i] w fun e w' => e = .returned (.int .i64 0) ∧ Ext w w' := by
  go_enter Try.func34, Try.ntmps34
  go_wp2_with (go_at_call 47; refine (filter_nil _ _).mono ?_; rintro e w1 ⟨rfl, rfl⟩)
  go_ret
  exact ⟨rfl, (Ext.refl w).alloc' _⟩
/-- the number of processes that New keeps -/
def procs (p : Int) : Int := if p < 0 then 0 else if 62 < p then 62 else p
set_option maxHeartbeats 1000000 in
theorem new_any (p : Int) (w : World) : Calls Try.prog 19 #[.int .i64 p] w fun e w' => e = .returned (.pointer (some ⟨w.heap.size, 0, none⟩)) ∧ Blk w' w.heap.size 77 #[.int .i64 (procs p), .slice none 0 0] ∧ Ext w w' := by
  go_enter Try.func19, Try.ntmps19
  go_wp2_with fail
  all_goals
    go_ret
    refine ⟨rfl, ?_, (Ext.refl w).alloc' _⟩
    first
      | (rw [show procs p = 0 from by unfold procs; (repeat' split) <;> omega]; exact Blk.new _ _ _)
      | (rw [show procs p = 62 from by unfold procs; (repeat' split) <;> omega]; exact Blk.new _ _ _)
      | (rw [show procs p = p from by unfold procs; (repeat' split) <;> omega]; exact Blk.new _ _ _)
end Go.Proofs.Ytengpfpeeihaoaa
