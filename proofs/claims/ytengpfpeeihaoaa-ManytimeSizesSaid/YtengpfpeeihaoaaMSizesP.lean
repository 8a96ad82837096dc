/- ManytimeSizes: for every number of levels and every byte string Capacity, Size and Leaf answer as the reference does: the law returns true and leaves its arguments alone. No condition. The frame round the walk was written by the kit's proof-skeleton.mjs. -/
import Derived.Test.YtengpfpeeihaoaaMSizes
import Derived.WalkKit
import Derived.ProofKit
import Derived.OpenShut
import Derived.ShutString
import Derived.ChangeOld
import Derived.Below
namespace Go.Proofs.Ytengpfpeeihaoaa.manytimeSizes
open Go.ChangeShapes Go.WideShapes Go.ChangeAt Go.RowKit
open Go.ChangeMaps (open_string shut_string)
set_option linter.unusedVariables false

theorem own : ownKnob Try.prog.godebug = none := by kernel_rfl
theorem laidOut : laidOutB Try.prog = true := by kernel_rfl

set_option maxRecDepth 100000 in
set_option maxHeartbeats 1000000 in
theorem walk (a0 : Int) (a1 : Option Addr) (len1 cap1 : Nat) (z1 : List Int) (w : World) (w0 : (Lit.int .i64 a0).wf = true) (w1 : IsRow .u8 w a1 len1 cap1 z1) :
    Calls Try.prog 3 #[.int .i64 a0, .slice a1 len1 cap1] w fun e w' => e = .returned (.bool true) ∧ Below w.heap.size w w' := by
  obtain ⟨l, hs⟩ := slb_of_row w1
  have hn := hs.le
  have hcap := hs.cap
  have hlen := hs.len
  by_cases h2 : 2 ≤ len1
  · have h2' : (2 : Int) ≤ (len1 : Int) := by omega
    obtain ⟨b, o, rfl, hra, hbl⟩ := hs.at (by omega)
    have hc0 := byte_at hra 0 (by omega)
    have hc1 := byte_at hra 1 (by omega)
    rw [Nat.add_zero] at hc0
    have HN := Lib.hid (num2 l (by omega))
    have hi1 : (1 : Int) < (len1 : Int) := by omega
    have hi0 : 0 < len1 := by omega
    have hlf := Lib.hid (leaf_yes (some ⟨b, o, none⟩) len1 cap1 l w hs h2)
    rw [HN.out] at hlf
    generalize (l[0]'(by omega)) = x at *
    generalize (l[1]'(by omega)) = y at *
    have hxy := or2b x y
    have hx256 : (x.toNat : Int) < 256 := by have := x.toNat_lt; omega
    have hy256 : (y.toNat : Int) < 256 := by have := y.toNat_lt; omega
    go_enter Try.func3, Try.ntmps3
    go_wp2_with fail
    refine hlf.out.mono ?_
    rintro e w1 ⟨rfl, rfl⟩
    go_wp2_with fail
    go_quiet (fail)
    go_wp2_with (first | (go_at_call 13; refine (capacity_any a0 _).mono ?_; rintro e w1 ⟨rfl, rfl⟩) | (go_at_call 14; refine (refCapacity_any a0 _).mono ?_; rintro e w1 ⟨rfl, rfl⟩) | (go_at_call 15; refine (size_any a0 _).mono ?_; rintro e w1 ⟨rfl, rfl⟩) | (go_at_call 16; refine (refSize_any a0 _).mono ?_; rintro e w1 ⟨rfl, rfl⟩) | (go_at_call 17; refine (awake5_any _).mono ?_; rintro e w1 ⟨rfl, rfl⟩))
    go_ret
    exact ⟨rfl, below_drewN (Below.refl _ _) _⟩
  · have h2' : decide ((2 : Int) ≤ (len1 : Int)) = false := decide_eq_false (by omega)
    have hlf := Lib.hid (leaf_no a1 len1 cap1 w (by omega))
    go_enter Try.func3, Try.ntmps3
    go_wp2_with fail
    refine hlf.out.mono ?_
    rintro e w1 ⟨rfl, rfl⟩
    go_wp2_with (first | (go_at_call 13; refine (capacity_any a0 _).mono ?_; rintro e w1 ⟨rfl, rfl⟩) | (go_at_call 14; refine (refCapacity_any a0 _).mono ?_; rintro e w1 ⟨rfl, rfl⟩) | (go_at_call 15; refine (size_any a0 _).mono ?_; rintro e w1 ⟨rfl, rfl⟩) | (go_at_call 16; refine (refSize_any a0 _).mono ?_; rintro e w1 ⟨rfl, rfl⟩) | (go_at_call 17; refine (awake5_any _).mono ?_; rintro e w1 ⟨rfl, rfl⟩))
    go_ret
    exact ⟨rfl, Below.refl _ _⟩

/-! ### THE ROW's STEP: WRITTEN OUT: LEAVE IT -/
set_option maxRecDepth 100000 in
theorem lifted (os : Os) (started : os.Started) (H : Type) (enc : TypeId × Value → H) :
    ReturnsInHanded {} Try.checked os 3 .any (Rows.manytimeSizesSpec.pre6 enc Try.prog Try.f3 Rows.manytimeSizesRow.domain false) (Rows.manytimeSizesSpec.post enc Try.prog Try.f3 false true false false) := by
  refine returnsInHanded_of_change (C := Try.checked) own started (by kernel_rfl) Try.func3
    (ChangeSpec.witness6 (enc := enc) (C := Try.checked) false ⟨#[], #[.int .i64 0, .slice none 0 0], []⟩ 8 (by kernel_rfl) (by kernel_rfl) (by kernel_rfl) (by kernel_rfl)) ?_
  intro W base args ds gs before hval0 hW hcnd _
  have hval : ∀ (j : Nat) t v, Try.f3.params[j]? = some t → args[j]? = some v → Value.okWide Try.prog W .any base t v := hval0
  have hW' := hW
  obtain ⟨p, q, hA0, hV, rfl, hfz, hnd⟩ := hW
  have hA : DataW.TrodAll enc Try.prog W 0 (fun _ => true) true Try.f3.params.toList args.toList ds p := hA0
  rw [Try.params3] at hA hval
  obtain ⟨v0, vs0, d0, ds0, p0, q0, hargs, rfl, rfl, h0, r0⟩ := trodAll_cons hA
  obtain ⟨v1, vs1, d1, ds1, p1, q1, rfl, rfl, rfl, h1, r1⟩ := trodAll_cons r0
  obtain ⟨rfl, rfl, rfl⟩ := trodAll_nil r1
  obtain rfl : args = #[v0, v1] := by cases args; simp_all
  obtain ⟨rfl, rfl⟩ := trodVars_none hV
  obtain ⟨a0, rfl, rfl, rfl, w0⟩ := open_int Try.underlying3 (hval 0 3 v0 rfl rfl) h0
  obtain ⟨a1, len1, cap1, rfl⟩ := okWide_slice Try.underlying22 (hval 1 22 v1 rfl rfl)
  have k1 := h1
  have lt1 : ∀ x ∈ p1, x.block < W.heap.size := by obtain ⟨m, hm⟩ := k1; exact DataW.trod_lt m _ _ _ hm
  obtain ⟨z1, w1⟩ : ∃ zs, IsRow .u8 W a1 len1 cap1 zs := by
    obtain ⟨fuel, hf⟩ := h1
    rcases open_ints Try.underlying22 Try.underlying5 (by kernel_rfl) hf with ⟨hcs, _⟩ | ⟨x, l, c, zs, hcs, _, hl, hm, hz, _, hcell, hwz⟩
    · simp [Value.cells] at hcs
      obtain ⟨rfl, rfl, rfl⟩ := hcs
      exact ⟨[], .inl ⟨rfl, rfl, rfl, rfl⟩⟩
    · simp [Value.cells] at hcs
      obtain ⟨rfl, rfl, rfl⟩ := hcs
      exact ⟨zs, .inr ⟨_, rfl, hl, hm, by simpa using hz, hcell, hwz⟩⟩
  clear hA0 hval0
  refine (walk a0 a1 len1 cap1 z1 W w0 w1).mono fun e W' ⟨he, bel⟩ => ?_
  subst he
  exact ⟨_, rfl, _, _, _, [], _, [], hW', trodAll_mk1 (shut_bool Try.underlying4 _), (trodAll_cons_mk (shut_int Try.underlying3 w0) (trodAll_cons_mk (Below.trod laidOut (by kernel_rfl) (of_decide_eq_true (by kernel_rfl)) k1 bel lt1) trodAll_mk0)), rfl, bel.frame _, fun h => by cases h⟩

theorem over : Rows.manytimeSizesRow.holds Try.pinned (OpenSpec.ofChange Rows.manytimeSizesSpec) :=
  OpenClaim.holds_of_wide 3 Try.f3 rfl rfl rfl rfl rfl rfl rfl ⟨rfl, rfl, rfl, rfl, rfl⟩ rfl rfl rfl rfl rfl (by kernel_rfl) Try.func3 (by kernel_rfl)
    (of_decide_eq_true (by kernel_rfl)) (by unfold Func.isWrapper; first | (rw [if_pos (by decide +kernel)]; kernel_rfl) | (rw [if_neg (by decide +kernel)]; exact ⟨rfl, rfl⟩))
    (fun os started H enc _ => lifted os started H enc)

/-- ████ THE STATEMENT ████ -/
theorem proved : Rows.ManytimeSizesSaid := over
#print axioms proved
end Go.Proofs.Ytengpfpeeihaoaa.manytimeSizes
