/- names (the program's), list and Uint (the reference's): names that stand in bytes. -/
import Derived.Test.YtengpfpeeihaoaaMrk6
import Derived.Test.YtengpfpeeihaoaaCod
namespace Go.Proofs.Ytengpfpeeihaoaa
open Go.RowKit
set_option linter.unusedVariables false
set_option linter.unusedSimpArgs false

/-- the name that stands at place i behind an offset -/
def nmAt (l : List UInt8) (at_ i : Nat) : UInt64 := ofNm ((l.drop (at_ + i * 8)).take 8)
def namesU (l : List UInt8) (at_ n : Nat) : List UInt64 := (List.range n).map (nmAt l at_)
theorem namesU_length (l : List UInt8) (at_ n : Nat) : (namesU l at_ n).length = n := by simp [namesU]
theorem nmb_nmAt (l : List UInt8) (at_ i : Nat) (h : at_ + i * 8 + 8 ≤ l.length) : nmb (nmAt l at_ i) = (l.drop (at_ + i * 8)).take 8 := nmb_ofNm _ (by simp; omega)
theorem hmkN (n : Nat) (hn : n ≤ 1000) (F : Nat → UInt64) (w : World) : (Instr.makeSlice 84 (.int .i64 (n : Int)) (.int .i64 (n : Int))).run Try.prog w = .ok (.slice (some ⟨w.heap.size, 0, none⟩) n n) (w.alloc (.cells (ncs (tabN F n 0)).toArray 61)) := by
  obtain ⟨i, hi, hz, hs, hby⟩ := namesE.get
  have h := run_make (P := Try.prog) w 84 61 i (.agg zcs.toArray) namesE.ut hi hz .i64 .i64 n n (by omega) (by omega) (by rw [hby]; omega) (by omega)
  rw [hs, show (n : Int).toNat * 8 = n * 8 from by rw [Int.toNat_natCast], made_names] at h
  simpa [tabN] using h
theorem splice_name (ns : List UInt64) (k : Nat) (n : UInt64) (hk : k < ns.length) : splice (ncs ns) (k * 8) (bcs (nmb n)) = ncs (ns.set k n) := by
  have hs : ns.set k n = ns.take k ++ n :: ns.drop (k + 1) := by rw [List.set_eq_take_append_cons_drop, if_pos hk]
  unfold splice
  rw [bcs_length, nmb_length, ncs_take, show k * 8 + 8 = (k + 1) * 8 from by omega, ncs_drop, hs, ncs_append, ncs_cons]
set_option maxRecDepth 100000 in
set_option maxHeartbeats 1000000 in
theorem names_any (A : Option Addr) (len c : Nat) (l : List UInt8) (at_ n : Nat) (w : World) (h : SlB w A len c l) (hn : n ≤ 1000) (hf : at_ + n * 8 ≤ len) (hat : at_ ≤ 1000) :
    Calls Try.prog 80 #[.slice A len c, .int .i64 (at_ : Int), .int .i64 (n : Int)] w fun e w' => ∃ g, e = .returned (.slice (some ⟨g, 0, none⟩) n n) ∧ SlN w' (some ⟨g, 0, none⟩) n n (namesU l at_ n) ∧ Ext w w' := by
  have hmk := hmkN n hn (nmAt l at_)
  have hle := h.le
  have hcap := h.cap
  have hlen := h.len
  have HS := Lib.hid h
  clear h
  go_enter Try.func80, Try.ntmps80
  go_wp2_with fail
  go_loopw [13] (fun i wr => ∃ (k : Nat), k ≤ n ∧ i = .int .i64 (k : Int) ∧ Blk wr w.heap.size 61 (ncs (tabN (nmAt l at_) n k)).toArray ∧ Ext w wr) (fun i _ => n - (intOf i).toNat)
  case atStart => exact ⟨0, by omega, rfl, Blk.new _ _ _, (Ext.refl w).alloc' _⟩
  case round =>
    obtain ⟨k, hk, rfl, hT, hE⟩ := hrel
    by_cases hlt : k < n
    · have HT := Lib.hid hT
      have HE := Lib.hid hE
      obtain ⟨b, o, rfl, hra, hbl⟩ := (HS.out.ext hE).at (by omega)
      have j0 : (0 : Int) ≤ (k : Int) := by omega
      have j1 : (k : Int) < (n : Int) := by omega
      have e1 : IntKind.i64.wrap ((k : Int) * 8) = (k : Int) * 8 := IntWalk.i64_in _ (by omega)
      have e2 : IntKind.i64.wrap ((at_ : Int) + (k : Int) * 8) = (at_ : Int) + (k : Int) * 8 := IntWalk.i64_in _ (by omega)
      have e3 : (0 : Int) ≤ (at_ : Int) + (k : Int) * 8 := by omega
      have e4 : ((at_ : Int) + (k : Int) * 8).toNat = at_ + k * 8 := by omega
      have e5 : (at_ : Int) + (k : Int) * 8 ≤ (len : Int) := by omega
      have e6 : ¬ c = at_ + k * 8 := by omega
      have hsrc := Lib.hid (show wr.drew.rangeAt b (o + (at_ + k * 8)) (bcs (nmb (nmAt l at_ k))) from by
        rw [nmb_nmAt l at_ k (by omega)]
        have := rangeAt_take (rangeAt_drop hra (k := at_ + k * 8)) (k := 8)
        simpa [bcs, List.map_take, List.map_drop] using this)
      have HPS := Lib.hid (show ∀ j v, (bcs (nmb (nmAt l at_ k)))[j]? = some v → wr.drew.cell? ((⟨b, o + (at_ + k * 8), none⟩ : Addr).add j) = some v from fun j v hv => by rw [Addr.add_mid]; exact hsrc.out j v hv)
      clear hT hE hra
      go_wp2_with fail
      have HN := Lib.hid (show (bcs (nmb (nmAt l at_ k))).length = Nat.min (len - (at_ + k * 8)) 8 from by rw [bcs_length, nmb_length]; exact (Nat.min_eq_right (by omega)).symm)
      have HFT := Lib.hid (show k * 8 + (bcs (nmb (nmAt l at_ k))).length ≤ (ncs (tabN (nmAt l at_) n k)).length from by rw [bcs_length, nmb_length, ncs_length, tabN_length _ _ _ hk]; omega)
      have HSP := Lib.hid (show splice (ncs (tabN (nmAt l at_) n k)) (k * 8) (bcs (nmb (nmAt l at_ k))) = ncs (tabN (nmAt l at_) n (k + 1)) from by rw [splice_name _ _ _ (by rw [tabN_length _ _ _ hk]; exact hlt), tabN_set _ _ _ hlt])
      go_region_law ((refine step_copy_splice rfl (.tmp 19) (.tmp 25) 22 22 rfl 5 Try.underlying22 (by kernel_rfl) (some ⟨w.heap.size, k * 8, none⟩) (some ⟨b, o + (at_ + k * 8), none⟩) 8 8 (len - (at_ + k * 8)) (c - (at_ + k * 8)) ?q1 ?q2 w.heap.size (k * 8) (ncs (tabN (nmAt l at_) n k)) 61 HT.out (bcs (nmb (nmAt l at_ k))) HN.out (fun _ => ⟨rfl, _, rfl, HPS.out⟩) HFT.out (bcs_one _) w.heap.size w HE.out.drew' (Nat.le_refl _) ?q9; (case q1 => go_simp); (case q2 => go_simp); intro w1 hg1 hE1))
      go_wp2_with fail
      go_roundw
      case rel => exact ⟨k + 1, by omega, by go_num, by rw [← HSP.out]; exact hg1.out, hE1⟩
      case measure => simp [intOf]; omega
    · obtain rfl : k = n := by omega
      rw [tabN_full] at hT
      have hsl : SlN wr (some ⟨w.heap.size, 0, none⟩) k k (namesU l at_ k) := SlN.of_blk hT (namesU_length l at_ k) (by omega)
      go_wp2_with fail
      go_ret
      exact ⟨_, rfl, hsl, hE⟩
set_option maxRecDepth 100000 in
set_option maxHeartbeats 1000000 in
theorem refUint_yes (A : Option Addr) (n c : Nat) (l : List UInt8) (at_ width : Nat) (w : World) (h : SlB w A n c l) (h1 : 1 ≤ width) (h8 : width ≤ 8) (hf : at_ + width ≤ n) (hn : n ≤ 140737488355328) :
    Calls Try.prog 83 #[.slice A n c, .int .i64 (at_ : Int), .int .i64 (width : Int)] w fun e w' => e = .returned (.tuple #[.int .u64 (numAt l at_ width : Int), .bool true]) ∧ w = w' := by
  have hle := h.le
  have hcap := h.cap
  have hlen := h.len
  have e1 : decide ((width : Int) < 1) = false := decide_eq_false (by omega)
  have e2 : decide ((8 : Int) < (width : Int)) = false := decide_eq_false (by omega)
  have e3 : decide ((at_ : Int) < 0) = false := decide_eq_false (by omega)
  have e4 : decide ((n : Int) - (width : Int) < (at_ : Int)) = false := decide_eq_false (by omega)
  have e5 : (0 : Int) ≤ (at_ : Int) := by omega
  obtain ⟨b, o, rfl, hra, hbl⟩ := h.at (by omega)
  go_enter Try.func83, Try.ntmps83
  go_wp2_with fail
  go_loop [8, 9] (fun v i => ∃ k : Nat, k ≤ width ∧ i = .int .i64 (k : Int) ∧ v = .int .u64 ((numAt l at_ k : Nat) : Int)) (fun _ i => width - (intOf i).toNat)
  case atStart => exact ⟨0, by omega, rfl, by simp [numAt, beNat]⟩
  case round =>
    obtain ⟨k, hk, rfl, rfl⟩ := hrel
    by_cases hlt : k < width
    · have hcell := byte_at hra (at_ + k) (by omega)
      rw [← Nat.add_assoc] at hcell
      have hd : (l.drop at_)[k]'(by simp; omega) = l[at_ + k]'(by omega) := by simp
      have HS := Lib.hid (show numAt l at_ (k + 1) = numAt l at_ k * 256 + (l[at_ + k]'(by omega)).toNat by unfold numAt; rw [take_at _ _ (by simp; omega), beNat_snoc, hd])
      have hor := or_byte' (numAt l at_ k) (l[at_ + k]'(by omega)) (pow_le7 _ k (beNat_take_lt _ _ (by simp; omega)) (by omega))
      clear hd
      generalize numAt l at_ k = a at *
      generalize (l[at_ + k]'(by omega)) = x at *
      have hcell' : w.cell? ⟨b, o + (at_ + k), none⟩ = some (.int .u8 (x.toNat : Int)) := by rw [← Nat.add_assoc]; exact hcell
      have i1 : (at_ : Int) + (k : Int) < (n : Int) := by omega
      have i2 : (0 : Int) ≤ (at_ : Int) + (k : Int) := by omega
      go_wp2_with fail
      go_round
      case rel => exact ⟨k + 1, by omega, by go_num, by rw [HS.out]; go_num⟩
      case measure => simp [intOf]; omega
    · obtain rfl : k = width := by omega
      go_wp2_with fail
      go_ret2
      exact ⟨rfl, rfl⟩
end Go.Proofs.Ytengpfpeeihaoaa
