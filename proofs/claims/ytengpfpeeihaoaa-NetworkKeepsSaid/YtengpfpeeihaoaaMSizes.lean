/- Capacity, Size of the program and of the reference; what a slice of integers that came in reads as. -/
import Derived.Test.YtengpfpeeihaoaaCod
import Derived.Test.YtengpfpeeihaoaaA
import Derived.ProofKit
import Derived.OpenShut
import Derived.Deep.Slices
namespace Go.Proofs.Ytengpfpeeihaoaa
open Go.RowKit
set_option linter.unusedVariables false
set_option linter.unusedSimpArgs false

theorem size_any (n : Int) (w : World) :
    Calls Try.prog 15 #[.int .i64 n] w fun e w' => e = .returned (.int .i64 (sizeZ n)) ∧ w = w' := by
  by_cases h2 : n = 2
  · subst h2
    go_enter Try.func15, Try.ntmps15
    go_wp2
    go_ret
    exact ⟨rfl, rfl⟩
  · by_cases h1 : n = 1
    · subst h1
      go_enter Try.func15, Try.ntmps15
      go_wp2
      go_ret
      exact ⟨rfl, rfl⟩
    · have e : sizeZ n = 0 := by simp [sizeZ, h1, h2]
      have b2 : (n == 2) = false := by simp [h2]
      have b1 : (n == 1) = false := by simp [h1]
      rw [e]; clear e h1 h2
      go_enter Try.func15, Try.ntmps15
      go_wp2
      go_ret
      exact ⟨rfl, rfl⟩
theorem refSize_any (n : Int) (w : World) :
    Calls Try.prog 16 #[.int .i64 n] w fun e w' => e = .returned (.int .i64 (sizeZ n)) ∧ w = w' := by
  by_cases h2 : n = 2
  · subst h2
    go_enter Try.func16, Try.ntmps16
    go_wp2
    go_ret
    exact ⟨rfl, rfl⟩
  · by_cases h1 : n = 1
    · subst h1
      go_enter Try.func16, Try.ntmps16
      go_wp2
      go_ret
      exact ⟨rfl, rfl⟩
    · have e : sizeZ n = 0 := by simp [sizeZ, h1, h2]
      rw [e]; clear e
      by_cases hlo : n < 1
      · go_enter Try.func16, Try.ntmps16
        go_wp2
        go_ret
        exact ⟨rfl, rfl⟩
      · have hhi : 2 < n := by omega
        go_enter Try.func16, Try.ntmps16
        go_wp2
        go_ret
        exact ⟨rfl, rfl⟩
set_option maxHeartbeats 1000000 in
theorem awake5_any (w : World) :
    Calls Try.prog 17 #[] w fun e w' => e = .returned (.bool true) ∧ w = w' := by
  go_enter Try.func17, Try.ntmps17
  go_wp2_with fail
  refine (capacity_any 1 _).mono ?_
  rintro e w1 ⟨rfl, rfl⟩
  rw [show capZ 1 = 32 from rfl]
  go_wp2_with fail
  refine (capacity_any 2 _).mono ?_
  rintro e w1 ⟨rfl, rfl⟩
  rw [show capZ 2 = 1024 from rfl]
  go_wp2_with fail
  refine (size_any 2 _).mono ?_
  rintro e w1 ⟨rfl, rfl⟩
  rw [show sizeZ 2 = 370 from rfl]
  go_wp2_with fail
  refine (size_any 3 _).mono ?_
  rintro e w1 ⟨rfl, rfl⟩
  rw [show sizeZ 3 = 0 from rfl]
  go_wp2_with fail
  go_ret
  exact ⟨rfl, rfl⟩
/-- what a law is told of a slice of integers that came in: nil, or a row of cells up to its capacity -/
def IsRow (k : IntKind) (w : World) (a : Option Addr) (len cap : Nat) (zs : List Int) : Prop :=
  (a = none ∧ len = 0 ∧ cap = 0 ∧ zs = []) ∨
  ∃ x, a = some x ∧ len ≤ cap ∧ cap ≤ maxLen ∧ zs.length = cap ∧ (∀ i, i < zs.length → w.cell? (x.add i) = some (.int k (zs.getD i 0))) ∧ ∀ n ∈ zs, (Lit.int k n).wf = true
theorem wf_u8 {n : Int} (h : (Lit.int .u8 n).wf = true) : 0 ≤ n ∧ n < 256 := by
  have : 0 ≤ n ∧ n ≤ 255 := by simpa [Lit.wf, IntKind.min, IntKind.max, IntKind.signed, IntKind.bits] using h
  omega
theorem slb_of_row {w : World} {a : Option Addr} {len cap : Nat} {zs : List Int} (h : IsRow .u8 w a len cap zs) : ∃ l, SlB w a len cap l := by
  rcases h with ⟨rfl, rfl, rfl, rfl⟩ | ⟨x, rfl, hl, hm, hz, hc, hw⟩
  · exact ⟨[], SlB.nil w⟩
  · refine ⟨(zs.take len).map toB, by simp; omega, hl, hm, ?_⟩
    by_cases h0 : len = 0
    · subst h0; exact .inl (by simp [bcs])
    have hcell : ∀ j, j < len → w.cell? (x.add j) = some (.int .u8 ((toB (zs.getD j 0)).toNat : Int)) := by
      intro j hj
      rw [hc j (by omega), ← toB_eq]
      have hb := wf_u8 (hw (zs.getD j 0) (by
        have : zs.getD j 0 = zs[j]'(by omega) := by simp [show j < zs.length from by omega]
        rw [this]; exact List.getElem_mem _))
      rw [Int.emod_eq_of_lt hb.1 hb.2]
    have hx : x.spot = none := by
      have := hcell 0 (by omega)
      simp only [Addr.add, if_pos] at this
      unfold World.cell? at this
      cases hs : x.spot with
      | none => rfl
      | some p => rw [hs] at this; split at this <;> simp at this
    refine .inr ⟨x.block, x.off, by cases x; simp_all, fun j v hv => ?_⟩
    have hj : j < len := by have := (List.getElem?_eq_some_iff.1 hv).1; simp [bcs] at this; omega
    have e : (⟨x.block, x.off + j, none⟩ : Addr) = x.add j := by
      cases x; simp only at hx; subst hx; rw [Addr.add_mid]
    rw [e, hcell j hj, ← hv]
    simp [bcs, bv, hj, show j < zs.length from by omega]
theorem num2 (l : List UInt8) (h : 2 ≤ l.length) : numAt l 0 2 = (l[0]'(by omega)).toNat * 256 + (l[1]'(by omega)).toNat := by
  unfold numAt
  match l, h with
  | a :: b :: r, _ => simp [beNat]
theorem or2 (x y : UInt8) : bits .or .i64 (IntKind.i64.wrap ((x.toNat : Int) * 256)) (y.toNat : Int) = ((x.toNat * 256 + y.toNat : Nat) : Int) := by
  have hx := x.toNat_lt
  have hy := y.toNat_lt
  have e : IntKind.i64.wrap ((x.toNat : Int) * 256) = ((x.toNat * 256 : Nat) : Int) := by rw [IntKind.wrap_i64]; omega
  have ho : x.toNat * 256 ||| y.toNat = x.toNat * 256 + y.toNat := by rw [show x.toNat * 256 = x.toNat * 2 ^ 8 from rfl, or_apart _ _ 8 (by omega)]
  have f : ∀ a : Nat, a < 9223372036854775808 → (BitVec.ofInt 64 (a : Int)).toNat = a := fun a ha => by
    rw [BitVec.ofInt_natCast, BitVec.toNat_ofNat]; exact Nat.mod_eq_of_lt (by omega)
  rw [e]
  show IntKind.i64.wrap ((BitVec.ofInt 64 ((x.toNat * 256 : Nat) : Int) ||| BitVec.ofInt 64 ((y.toNat : Nat) : Int)).toNat : Int) = _
  rw [BitVec.toNat_or, f _ (by omega), f _ (by omega), ho, IntKind.wrap_i64]
  omega
theorem or2b (x y : UInt8) : bits .or .i64 ((x.toNat : Int) * 256) (y.toNat : Int) = (x.toNat : Int) * 256 + (y.toNat : Int) := by
  have hx := x.toNat_lt
  have h := or2 x y
  rw [show IntKind.i64.wrap ((x.toNat : Int) * 256) = (x.toNat : Int) * 256 from by rw [IntKind.wrap_i64]; omega] at h
  rw [h]; omega
end Go.Proofs.Ytengpfpeeihaoaa
