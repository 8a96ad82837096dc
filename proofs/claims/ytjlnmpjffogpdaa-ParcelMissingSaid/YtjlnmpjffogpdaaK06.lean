/- extended, AppendUint (the program's): the bytes of a number behind bytes. -/
import Derived.Test.YtjlnmpjffogpdaaK04
import Derived.Test.YtjlnmpjffogpdaaK05
namespace Go.Proofs.Ytjlnmpjffogpdaa
open Go.RowKit
set_option linter.unusedVariables false
set_option linter.unusedSimpArgs false

def zbs (n : Nat) : List Value := List.replicate n (.int .u8 0)
theorem zbs_length (n : Nat) : (zbs n).length = n := by simp [zbs]
theorem made_bytes (n : Nat) : madeCells (Value.int .u8 0).cells (n * 1) = (zbs n).toArray := by
  apply Array.ext_getElem?
  intro j
  simp only [madeCells, zbs, Nat.mul_one, Array.getElem?_map, Value.cells, List.getElem?_toArray, List.getElem?_replicate]
  by_cases hj : j < n
  · simp [hj, Array.getElem?_range, Nat.mod_one]
  · simp [hj]
theorem hmkX (n k : Nat) (h : n + k ≤ 140737488355328) (w : World) : (Instr.makeSlice 33 (.int .i64 (n : Int)) (.int .i64 ((n : Int) + (k : Int)))).run Try.prog w = .ok (.slice (some ⟨w.heap.size, 0, none⟩) n (n + k)) (w.alloc (.cells (zbs (n + k)).toArray 5)) := by
  obtain ⟨i, hi, hz, hs, hby⟩ := bytesE.get
  have h := run_make (P := Try.prog) w 33 5 i (.int .u8 0) bytesE.ut hi hz .i64 .i64 n ((n : Int) + k) (by omega) (by omega) (by rw [hby]; omega) (by omega)
  rw [hs, show ((n : Int) + k).toNat = n + k from by omega, made_bytes, show ((n : Int)).toNat = n from by omega] at h
  exact h
theorem own_cells {w : World} {base g cap n : Nat} {e : TypeId} {l : List UInt8} {cur : Array Value} (hh : w.heap[g]? = some (.cells cur e (0, 0))) (hb : base ≤ g) (hl : l.length = n) (hc : n ≤ cap) (hm : cap ≤ 140737488355328) (hs : cur.size = cap) (ht : cur.toList.take n = bcs l) : OwnB w base e (some ⟨g, 0, none⟩) n cap l :=
  ⟨by rw [bcs_length, hl, Nat.mul_one], .inr ⟨g, cap, cur, rfl, hb, hh, hc, by simp only [maxLen]; omega, by omega, by rw [Nat.mul_one]; exact ht⟩⟩
set_option maxRecDepth 100000 in
set_option maxHeartbeats 1000000 in
theorem extended_any (A : Option Addr) (n c : Nat) (l : List UInt8) (k : Nat) (w : World) (h : SlB w A n c l) (hk : n + k ≤ 140737488355328) :
    Calls Try.prog 77 #[.slice A n c, .int .i64 (k : Int)] w fun e w' => ∃ A', e = .returned (.slice A' n (n + k)) ∧ OwnB w' w.heap.size 5 A' n (n + k) l ∧ Ext w w' := by
  have hmk := hmkX n k hk
  have HL := Lib.hid h.len
  have HR := Lib.hid (h.rd.ext ((Ext.refl w).alloc' (.cells (zbs (n + k)).toArray 5)))
  clear h
  go_enter Try.func77, Try.ntmps77
  go_wp2_with (with_reducible refine wpList_copy_splice rfl _ _ _ _ rfl 5 Try.underlying33 (by kernel_rfl) _ _ _ _ _ _ rfl rfl w.heap.size 0 (zbs (n + k)) 5 (heap_alloc_new w _) (bcs l) ?c1 ?c2 ?c3 (bcs_one l) w.heap.size w ((Ext.refl w).alloc' _) (Nat.le_refl _) ?_)
  case c1 => rw [bcs_length, HL.out]; exact (Nat.min_self n).symm
  case c2 => exact fun hp => HR.out.src hp
  case c3 => rw [bcs_length, zbs_length, HL.out]; omega
  intro w1 hb1 he1
  go_wp2_with fail
  go_ret
  exact ⟨_, rfl, own_cells hb1.out (Nat.le_refl _) HL.out (by omega) hk (by rw [List.size_toArray, length_splice _ _ _ (by rw [bcs_length, zbs_length, HL.out]; omega), zbs_length]) (by simp [splice, bcs_length, HL.out]), he1⟩
theorem beBytes_get (k n j : Nat) (hj : j < k) : (beBytes k n)[j]'(by rw [beBytes_length]; exact hj) = UInt8.ofNat (n / 256 ^ (k - 1 - j) % 256) := by
  induction k generalizing n j with
  | zero => omega
  | succ k ih =>
    simp only [beBytes]
    by_cases h : j < k
    · rw [List.getElem_append_left (by rw [beBytes_length]; exact h), ih _ _ h, Nat.div_div_eq_div_mul, show k + 1 - 1 - j = (k - 1 - j) + 1 from by omega, Nat.pow_succ, Nat.mul_comm 256]
    · obtain rfl : j = k := by omega
      rw [List.getElem_append_right (by rw [beBytes_length]; omega)]
      simp [beBytes_length]
theorem beBytes_step (k n i : Nat) (hi : i < k) : (beBytes k n).take (k - i) = (beBytes k n).take (k - (i + 1)) ++ [toB ((n : Int) / 2 ^ (8 * i))] := by
  rw [show k - i = k - (i + 1) + 1 from by omega, List.take_succ_eq_append_getElem (by rw [beBytes_length]; omega), beBytes_get _ _ _ (by omega)]
  congr 2
  rw [show k - 1 - (k - (i + 1)) = i from by omega, show (256 : Nat) = 2 ^ 8 from rfl, ← Nat.pow_mul]
  unfold toB
  rw [show ((n : Int) / 2 ^ (8 * i)) = ((n / 2 ^ (8 * i) : Nat) : Int) from by simp]
  congr 1
theorem au_rel {q wd n : Nat} {l : List UInt8} {v : UInt64} {A : Option Addr} {c : Nat} {w : World} {base : Nat} {e : TypeId} {z : Int} (h : OwnB w base e A (n + q + 1) c (l ++ ((beBytes wd v.toNat).take q ++ [toB z]))) (kk : Nat) (hk : q = wd - (kk + 1)) (hb : (beBytes wd v.toNat).take (wd - kk) = (beBytes wd v.toNat).take (wd - (kk + 1)) ++ [toB ((v.toNat : Int) / 2 ^ (8 * kk))]) (hw : kk < wd) (hz : z = (v.toNat : Int) / 2 ^ (8 * kk)) : OwnB w base e A (n + (wd - kk)) c (l ++ (beBytes wd v.toNat).take (wd - kk)) := by
  subst hk
  rw [hb, ← hz, show n + (wd - kk) = n + (wd - (kk + 1)) + 1 from by omega]
  exact h
set_option maxRecDepth 100000 in
set_option maxHeartbeats 4000000 in
theorem appendUint_any (A : Option Addr) (n c : Nat) (l : List UInt8) (v : UInt64) (wd : Nat) (hwd : wd ≤ 8) (w : World) (h : SlB w A n c l) (hn : n ≤ 140737488351232) :
    Calls Try.prog 51 #[.slice A n c, .int .u64 (un v), .int .i64 (wd : Int)] w fun e w' => ∃ A' c', e = .returned (.slice A' (n + wd) c') ∧ OwnB w' w.heap.size 5 A' (n + wd) c' (l ++ beBytes wd v.toNat) ∧ Ext w w' := by
  have k0 : (0 : Int) ≤ (wd : Int) := by omega
  have k1 : (wd : Int) ≤ 8 := by omega
  have hv0 := un_nonneg v
  have HV1 := Lib.hid (un_lt v)
  have HS := Lib.hid h
  clear h
  go_enter Try.func51, Try.ntmps51
  go_wp2_with fail
  refine (extended_any A n c l wd _ HS.out (by omega)).mono ?_
  rintro e w1 ⟨A1, rfl, hO1, hE1⟩
  have HO1 := Lib.hid hO1
  have HE1 := Lib.hid hE1
  clear hO1 hE1
  go_wp2_with fail
  go_loopw [7, 8] (fun x i wr => ∃ (j : Nat) (A2 : Option Addr) (c2 : Nat), j ≤ wd ∧ i = .int .i64 ((j : Int) - 1) ∧ x = .slice A2 (n + (wd - j)) c2 ∧ OwnB wr w.heap.size 5 A2 (n + (wd - j)) c2 (l ++ (beBytes wd v.toNat).take (wd - j)) ∧ Ext w wr) (fun _ i _ => (intOf i + 1).toNat)
  case atStart => exact ⟨wd, A1, n + wd, Nat.le_refl _, rfl, by simp, by simpa using HO1.out, HE1.out⟩
  case round =>
    obtain ⟨j, A2, c2, hj, rfl, rfl, hO, hE⟩ := hrel
    have HO := Lib.hid hO
    have HE := Lib.hid hE
    clear hO hE
    by_cases hlt : 0 < j
    · obtain ⟨i, rfl⟩ : ∃ i, j = i + 1 := ⟨j - 1, by omega⟩
      obtain ⟨kk, hkk⟩ : ∃ kk, kk = i := ⟨_, rfl⟩
      have HB := Lib.hid (beBytes_step wd v.toNat kk (by omega))
      have HKK := Lib.hid hkk
      clear hkk
      obtain ⟨q, hq⟩ : ∃ q, q = wd - (i + 1) := ⟨_, rfl⟩
      rw [← hq] at HO ⊢
      have HQ := Lib.hid (show q = wd - (kk + 1) from by rw [HKK.out]; exact hq)
      have hq8 : q ≤ 8 := by omega
      clear hq
      rw [show ((i + 1 : Nat) : Int) - 1 = (i : Int) from by omega]
      have hi7 : i = 0 ∨ i = 1 ∨ i = 2 ∨ i = 3 ∨ i = 4 ∨ i = 5 ∨ i = 6 ∨ i = 7 := by omega
      rcases hi7 with rfl | rfl | rfl | rfl | rfl | rfl | rfl | rfl
      all_goals (
        go_wp2_with (at_builtin; go_must (refine wpList_appB bytesE rfl (.tmp 21) (.tmp 27) rfl w.heap.size A2 _ c2 _ rfl (HO.out.alloc _) _ 1 1 [toB _] rfl (SlB.new1 _ _ _ _ _ rfl (toB_eq _)) (by omega) (HE.out.alloc' _).size w (HE.out.alloc' _) ?_))
        intro A4 c4 w4 hO4 hE4 hs4
        have HO4 := Lib.hid (au_rel hO4 kk HQ.out HB.out (by have := HKK.out; omega) (by rw [HKK.out]; simp [un]))
        clear hO4
        go_wp2_with fail
        go_roundw
        case rel => exact ⟨kk, A4, c4, by have := HKK.out; omega, by rw [HKK.out]; go_num, by have := HKK.out; have := HQ.out; congr 1; omega, HO4.out, hE4⟩
        case measure => simp [intOf])
    · obtain rfl : j = 0 := by omega
      have i1 : ((0 : Nat) : Int) - 1 < 0 := by omega
      go_wp2_with fail
      go_ret
      exact ⟨A2, c2, by simp, by have := HO.out; rwa [Nat.sub_zero, List.take_of_length_le (by rw [beBytes_length]; omega)] at this, HE.out⟩
end Go.Proofs.Ytjlnmpjffogpdaa

namespace Go.Proofs.Ytjlnmpjffogpdaa
open Go.RowKit
set_option linter.unusedVariables false
set_option linter.unusedSimpArgs false
attribute [local go_sem ↓] Go.wp_at_zero Go.wp_at_succ

/-! slices of names -/
theorem nmb_zero : nmb 0 = List.replicate 8 0 := by decide
end Go.Proofs.Ytjlnmpjffogpdaa
/- A slice literal of one name; a struct or array built of parts. -/
namespace Go.Proofs.Ytjlnmpjffogpdaa
open Go.RowKit
set_option linter.unusedVariables false
set_option linter.unusedSimpArgs false

theorem fold_arr (ds cs : Array Value) (o : Nat) : ds.zipIdx.foldl (fun cs (x : Value × Nat) => cs.setIfInBounds (o + x.2) x.1) cs = (ds.toList.zipIdx 0).foldl (fun a p => a.setIfInBounds (o + p.2) p.1) cs := by
  rw [← Array.foldl_toList, Array.toList_zipIdx]
theorem fold_whole (ds cs : Array Value) (h : ds.size = cs.size) : (ds.toList.zipIdx 0).foldl (fun a p => a.setIfInBounds (0 + p.2) p.1) cs = ds := by
  apply Array.ext_getElem?
  intro j
  rw [foldl_set_get]
  by_cases hj : j < ds.size
  · rw [if_pos (by simp; omega)]; simp
  · rw [if_neg (by simp; omega), Array.getElem?_eq_none (by omega), Array.getElem?_eq_none (by omega)]
@[go_sem] theorem fold_nmc (n : UInt64) (Z : Array Value) (hZ : Z.size = 8) : Array.foldl (fun cs x => cs.setIfInBounds x.snd x.fst) Z (nmc n).zipIdx 0 (nmc n).size = nmc n := by
  have h := fold_arr (nmc n) Z 0
  rw [fold_whole _ _ (by rw [nmc_size, hZ])] at h
  simpa using h
@[go_sem] theorem fold_nmc8 (n : UInt64) (Z : Array Value) (hZ : Z.size = 8) : Array.foldl (fun cs x => cs.setIfInBounds x.snd x.fst) Z (nmc n).zipIdx 0 8 = nmc n := by
  have h := fold_nmc n Z hZ
  rwa [nmc_size] at h
attribute [go_sem] nmc_size
/-- a byte of a name, closed to the walk -/
def nb8 (n : UInt64) (i : Nat) : Int := (((nmb n).getD i 0).toNat : Int)
theorem nmc_nb8 (n : UInt64) : #[.int .u8 (nb8 n 0), .int .u8 (nb8 n 1), .int .u8 (nb8 n 2), .int .u8 (nb8 n 3), .int .u8 (nb8 n 4), .int .u8 (nb8 n 5), .int .u8 (nb8 n 6), .int .u8 (nb8 n 7)] = nmc n := by
  unfold nmc nb8
  rw [show bcs (nmb n) = bcs [(nmb n).getD 0 0, (nmb n).getD 1 0, (nmb n).getD 2 0, (nmb n).getD 3 0, (nmb n).getD 4 0, (nmb n).getD 5 0, (nmb n).getD 6 0, (nmb n).getD 7 0] from congrArg bcs (nmb_list n)]
  rfl
attribute [go_sem] nmc_nb8
theorem cells8 {w : World} {g : Nat} {t : TypeId} {n : UInt64} (h : Blk w g t (nmc n)) : ∀ i, i < 8 → w.cell? ⟨g, i, none⟩ = some (.int .u8 (nb8 n i)) := fun i hi => by
  rw [h.cell i]; exact nmc_get n i hi
end Go.Proofs.Ytjlnmpjffogpdaa
