/- names (the program's), list and Uint (the reference's): names that stand in bytes. -/
import Derived.Test.YtcfmlgbocdjabaaMrk
import Derived.Test.YtcfmlgbocdjabaaCod
namespace Go.Proofs.Ytcfmlgbocdjabaa
open Go.RowKit
set_option linter.unusedVariables false
set_option linter.unusedSimpArgs false

/-- the name that stands at place i behind an offset -/
def nmAt (l : List UInt8) (at_ i : Nat) : UInt64 := ofNm ((l.drop (at_ + i * 8)).take 8)
def namesU (l : List UInt8) (at_ n : Nat) : List UInt64 := (List.range n).map (nmAt l at_)
theorem namesU_length (l : List UInt8) (at_ n : Nat) : (namesU l at_ n).length = n := by simp [namesU]
theorem nmb_nmAt (l : List UInt8) (at_ i : Nat) (h : at_ + i * 8 + 8 ≤ l.length) : nmb (nmAt l at_ i) = (l.drop (at_ + i * 8)).take 8 := nmb_ofNm _ (by simp; omega)
theorem hmkN (n : Nat) (hn : n ≤ 1000) (F : Nat → UInt64) (w : World) : (Instr.makeSlice 37 (.int .i64 (n : Int)) (.int .i64 (n : Int))).run Try.prog w = .ok (.slice (some ⟨w.heap.size, 0, none⟩) n n) (w.alloc (.cells (ncs (tabN F n 0)).toArray 23)) := by
  obtain ⟨i, hi, hz, hs, hby⟩ := namesE.get
  have h := run_make (P := Try.prog) w 37 23 i (.agg zcs.toArray) namesE.ut hi hz .i64 .i64 n n (by omega) (by omega) (by rw [hby]; omega) (by omega)
  rw [hs, show (n : Int).toNat * 8 = n * 8 from by rw [Int.toNat_natCast], made_names] at h
  simpa [tabN] using h
theorem splice_name (ns : List UInt64) (k : Nat) (n : UInt64) (hk : k < ns.length) : splice (ncs ns) (k * 8) (bcs (nmb n)) = ncs (ns.set k n) := by
  have hs : ns.set k n = ns.take k ++ n :: ns.drop (k + 1) := by rw [List.set_eq_take_append_cons_drop, if_pos hk]
  unfold splice
  rw [bcs_length, nmb_length, ncs_take, show k * 8 + 8 = (k + 1) * 8 from by omega, ncs_drop, hs, ncs_append, ncs_cons]
set_option maxRecDepth 100000 in
set_option maxHeartbeats 1000000 in
theorem refUint_yes (A : Option Addr) (n c : Nat) (l : List UInt8) (at_ width : Nat) (w : World) (h : SlB w A n c l) (h1 : 1 ≤ width) (h8 : width ≤ 8) (hf : at_ + width ≤ n) (hn : n ≤ 140737488355328) :
    Calls Try.prog 124 #[.slice A n c, .int .i64 (at_ : Int), .int .i64 (width : Int)] w fun e w' => e = .returned (.tuple #[.int .u64 (numAt l at_ width : Int), .bool true]) ∧ w = w' := by
  have hle := h.le
  have hcap := h.cap
  have hlen := h.len
  have e1 : decide ((width : Int) < 1) = false := decide_eq_false (by omega)
  have e2 : decide ((8 : Int) < (width : Int)) = false := decide_eq_false (by omega)
  have e3 : decide ((at_ : Int) < 0) = false := decide_eq_false (by omega)
  have e4 : decide ((n : Int) - (width : Int) < (at_ : Int)) = false := decide_eq_false (by omega)
  have e5 : (0 : Int) ≤ (at_ : Int) := by omega
  obtain ⟨b, o, rfl, hra, hbl⟩ := h.at (by omega)
  go_enter Try.func124, Try.ntmps124
  go_wp2_with fail
  go_loop [8, 9] (fun v i => ∃ k : Nat, k ≤ width ∧ i = .int .i64 (k : Int) ∧ v = .int .u64 ((numAt l at_ k : Nat) : Int)) (fun _ i => width - (intOf i).toNat)
  case atStart => exact ⟨0, by omega, rfl, by simp [numAt, beNat]⟩
  case round =>
    obtain ⟨k, hk, rfl, rfl⟩ := hrel
    by_cases hlt : k < width
    · have hcell := byte_at hra (at_ + k) (by omega)
      rw [← Nat.add_assoc] at hcell
      have hd : (l.drop at_)[k]'(by simp; omega) = l[at_ + k]'(by omega) := by simp
      have HS := Lib.hid (show numAt l at_ (k + 1) = numAt l at_ k * 256 + (l[at_ + k]'(by omega)).toNat by unfold numAt; rw [take_at _ _ (by simp; omega), beNat_snoc, hd])
      have hor := or_byte' (numAt l at_ k) (l[at_ + k]'(by omega)) (pow_le7 _ k (beNat_take_lt _ _ (by simp; omega)) (by omega))
      clear hd
      generalize numAt l at_ k = a at *
      generalize (l[at_ + k]'(by omega)) = x at *
      have hcell' : w.cell? ⟨b, o + (at_ + k), none⟩ = some (.int .u8 (x.toNat : Int)) := by rw [← Nat.add_assoc]; exact hcell
      have i1 : (at_ : Int) + (k : Int) < (n : Int) := by omega
      have i2 : (0 : Int) ≤ (at_ : Int) + (k : Int) := by omega
      go_wp2_with fail
      go_round
      case rel => exact ⟨k + 1, by omega, by go_num, by rw [HS.out]; go_num⟩
      case measure => simp [intOf]; omega
    · obtain rfl : k = width := by omega
      go_wp2_with fail
      go_ret2
      exact ⟨rfl, rfl⟩
end Go.Proofs.Ytcfmlgbocdjabaa
/- climbed: the root that a part of a signature shows. -/
namespace Go.Proofs.Ytcfmlgbocdjabaa
open Go.RowKit
set_option linter.unusedVariables false
set_option linter.unusedSimpArgs false

theorem stN {w0 w2 : World} {g : Nat} (hX : Ext w0 w2) (hq : Blk w2 g 23 zcs.toArray) (hg : w0.heap.size ≤ g) (r : UInt64) : Ext w0 (w2.setCells g 0 (nmc r).toList) := Below.setCells' hX hg _ _
theorem pack9 {w0 cur : World} {g : Nat} {r : UInt64} (hX : Ext w0 cur) (hb : Blk cur g 23 (nmc r)) : ∃ W1 g1, W1 = cur ∧ g1 = g ∧ Ext w0 W1 ∧ Blk W1 g1 23 (nmc r) := ⟨_, _, rfl, rfl, hX, hb⟩
def climbU (l : List UInt8) (at_ j : Nat) (m : UInt64) : UInt64 := compU (oneRec m (namesU l at_ 18)) j 32 (namesU l (at_ + 144) 5)
theorem dep_step (n d : Nat) (hn : 1 ≤ n) (hs : spl (2 * n) = n) (ih : ∀ j, j < n → depU j n = d) : ∀ j, j < 2 * n → depU j (2 * n) = d + 1 := by
  intro j hj
  by_cases hlt : j < n
  · rw [depU_low _ _ (by omega) (by rw [hs]; exact hlt), hs, ih j hlt]
  · rw [depU_high _ _ (by omega) (by rw [hs]; exact hlt), hs, show 2 * n - n = n from by omega, ih (j - n) (by omega)]
theorem dep32 (j : Nat) (h : j < 32) : depU j 32 = 5 :=
  dep_step 16 4 (by omega) (by decide) (dep_step 8 3 (by omega) (by decide) (dep_step 4 2 (by omega) (by decide) (dep_step 2 1 (by omega) (by decide) (dep_step 1 0 (by omega) (by decide) (fun j _ => depU_short _ _ (by decide)))))) j h
end Go.Proofs.Ytcfmlgbocdjabaa
