import Derived.DeepKeys
import Derived.Test.YtbfepgjeecndiaaGreatK01
import Derived.Test.YtbfepgjeecndiaaGreatK02
namespace Go.Proofs.YtbfepgjeecndiaaGreat
set_option maxRecDepth 100000
set_option maxHeartbeats 1000000
open Go.RowKit
set_option linter.unusedVariables false
set_option linter.unusedSimpArgs false
attribute [local go_sem ↓] Go.wp_at_zero Go.wp_at_succ
def tagU (t : UInt8) (l : List UInt8) : UInt64 := sumU (t :: l)
theorem hmk160 (w : World) : (Instr.makeSlice 28 (.int .i64 0) (.int .i64 160)).run Tryz.prog w = .ok (.slice (some ⟨w.heap.size, 0, none⟩) 0 160) (w.alloc (.cells (madeCells (Value.int .u8 0).cells 160) 5)) := by
 obtain ⟨i, hi, hz, hs, hby⟩ := bytesE.get
 have h := run_make (P := Tryz.prog) w 28 5 i (.int .u8 0) bytesE.ut hi hz .i64 .i64 0 160 (by omega) (by omega) (by rw [hby]; omega) (by omega)
 simpa [hs] using h
theorem tagged_any (t : UInt8) (A : Option Addr) (n c : Nat) (l : List UInt8) (w : World) (h : SlB w A n c l) (hm : n < 140737488355328) :
  Calls Tryz.prog 22 #[.int .u8 (t.toNat : Int), .slice A n c] w fun e w' => e = .returned (.agg (nmc (tagU t l))) ∧ Ext w w' := by
 have hmk := hmk160
 go_enter Tryz.func22, Tryz.ntmps22
 go_wp2_with (at_builtin; go_must (refine wpList_appB bytesE rfl (.tmp 7) (.tmp 9) rfl (w.heap.size + 1) _ _ _ [] rfl ((OwnB.made (w.alloc _) (w.heap.size + 1) _ 160 (w.heap.size + 1) (by simp) (Nat.le_refl _) (by omega) (size_madeCells _ _)).alloc _) _ _ _ [t] rfl ?r1 (by omega) ?b1 (w.alloc (.cells zcs.toArray 44)) ?w1 ?_))
 case r1 => exact SlB.new1 _ _ _ t _ (by simp) rfl
 case b1 => simp
 case w1 => exact Below.alloc (Below.alloc (Below.refl _ _) (by simp) _) (by simp) _
 intro A1 c1 w1 ho1 hw1 hs1
 have hsl := h.ext (((Ext.refl w).alloc' _).trans (hw1.mono (by simp)))
 have hsz : w.heap.size + 1 ≤ w1.heap.size := by omega
 go_wp2_with (at_builtin; refine wpList_appB bytesE rfl (.tmp 10) (.tmp 11) rfl (w.heap.size + 1) _ _ _ [t] rfl ho1 _ _ _ l rfl hsl (by omega) hsz (w.alloc (.cells zcs.toArray 44)) hw1 ?_)
 intro A2 c2 w2 ho2 hw2 hs2
 go_wp2_with fail
 refine (sum_any _ _ _ _ _ ho2.sl (by omega)).mono ?_
 rintro e w3 ⟨rfl, he3⟩
 have hE3 : Ext (w.alloc (.cells zcs.toArray 44)) w3 := by have := Below.trans hw2 (he3.mono (B' := w.heap.size + 1) (by omega)); simpa [Ext] using this
 have hb0 : Blk w3 w.heap.size 44 zcs.toArray := (Blk.new w _ _).ext hE3
 go_wp2_with (refine wpList_store_mid rfl 44 _ _ rfl w.heap.size 0 (nmc (sumU ([t] ++ l))) rfl rfl (thereN hb0 _) (size61 _) (nmc_one _) ?_)
 refine bodyPost_ret (v := .agg (nmc (sumU ([t] ++ l)))) (retN rfl _ _ w.heap.size _ rfl (blkN hb0 _)) rfl ⟨rfl, Below.setCells' (((Ext.refl w).alloc' _).trans hE3) (Nat.le_refl _) _ _⟩
end Go.Proofs.YtbfepgjeecndiaaGreat
namespace Go.Proofs.YtbfepgjeecndiaaGreat
open Go.RowKit
set_option linter.unusedVariables false
set_option linter.unusedSimpArgs false
attribute [local go_sem ↓] Go.wp_at_zero Go.wp_at_succ
theorem refTagged_any (t : UInt8) (A : Option Addr) (n c : Nat) (l : List UInt8) (w : World) (h : SlB w A n c l) (hm : n < 140737488355328) :
  Calls Tryz.prog 24 #[.int .u8 (t.toNat : Int), .slice A n c] w fun e w' => e = .returned (.agg (nmc (tagU t l))) ∧ Ext w w' := by
 have hmk := hmk160
 go_enter Tryz.func24, Tryz.ntmps24
 go_wp2_with (at_builtin; go_must (refine wpList_appB bytesE rfl (.tmp 5) (.tmp 7) rfl (w.heap.size + 1) _ _ _ [] rfl ((OwnB.made (w.alloc _) (w.heap.size + 1) _ 160 (w.heap.size + 1) (by simp) (Nat.le_refl _) (by omega) (size_madeCells _ _)).alloc _) _ _ _ [t] rfl ?r1 (by omega) ?b1 (w.alloc (.cells zcs.toArray 44)) ?w1 ?_))
 case r1 => exact SlB.new1 _ _ _ t _ (by simp) rfl
 case b1 => simp
 case w1 => exact Below.alloc (Below.alloc (Below.refl _ _) (by simp) _) (by simp) _
 intro A1 c1 w1 ho1 hw1 hs1
 have hsl := h.ext (((Ext.refl w).alloc' _).trans (hw1.mono (by simp)))
 have hsz : w.heap.size + 1 ≤ w1.heap.size := by omega
 go_wp2_with (at_builtin; refine wpList_appB bytesE rfl (.tmp 8) (.tmp 9) rfl (w.heap.size + 1) _ _ _ [t] rfl ho1 _ _ _ l rfl hsl (by omega) hsz (w.alloc (.cells zcs.toArray 44)) hw1 ?_)
 intro A2 c2 w2 ho2 hw2 hs2
 go_wp2_with fail
 refine (refSum_any _ _ _ _ _ ho2.sl (by omega)).mono ?_
 rintro e w3 ⟨rfl, he3⟩
 have hE3 : Ext (w.alloc (.cells zcs.toArray 44)) w3 := by have := Below.trans hw2 (he3.mono (B' := w.heap.size + 1) (by omega)); simpa [Ext] using this
 have hb0 : Blk w3 w.heap.size 44 zcs.toArray := (Blk.new w _ _).ext hE3
 go_wp2_with (refine wpList_store_mid rfl 44 _ _ rfl w.heap.size 0 (nmc (sumU ([t] ++ l))) rfl rfl (thereN hb0 _) (size61 _) (nmc_one _) ?_)
 refine bodyPost_ret (v := .agg (nmc (sumU ([t] ++ l)))) (retN rfl _ _ w.heap.size _ rfl (blkN hb0 _)) rfl ⟨rfl, Below.setCells' (((Ext.refl w).alloc' _).trans hE3) (Nat.le_refl _) _ _⟩
end Go.Proofs.YtbfepgjeecndiaaGreat
namespace Go.Proofs.YtbfepgjeecndiaaGreat
open Go.RowKit
set_option linter.unusedVariables false
set_option linter.unusedSimpArgs false
attribute [local go_sem ↓] Go.wp_at_zero Go.wp_at_succ
end Go.Proofs.YtbfepgjeecndiaaGreat
namespace Go.Proofs.YtbfepgjeecndiaaGreat
open Go.RowKit
set_option linter.unusedVariables false
set_option linter.unusedSimpArgs false
attribute [local go_sem ↓] Go.wp_at_zero Go.wp_at_succ
theorem Blk.setCells_far {w : World} {g g' : Nat} {t : TypeId} {cs : Array Value} (h : Blk w g t cs) (hne : g ≠ g') (vs : List Value) : ∀ o, Blk (w.setCells g' o vs) g t cs := by
 induction vs generalizing w with
 | nil => intro o; exact h
 | cons v r ih => intro o; exact ih (h.far (p := ⟨g', o, none⟩) hne v) (o + 1)
theorem nmc_get (n : UInt64) (k : Nat) (hk : k < 8) : (nmc n)[k]? = some (.int .u8 (((nmb n).getD k 0).toNat : Int)) := by
 have hl := nmb_length n
 simp [nmc, bcs, bv, hl, hk]
theorem nmb_list (n : UInt64) : nmb n = [(nmb n).getD 0 0, (nmb n).getD 1 0, (nmb n).getD 2 0, (nmb n).getD 3 0, (nmb n).getD 4 0, (nmb n).getD 5 0, (nmb n).getD 6 0, (nmb n).getD 7 0] := by
 have hl := nmb_length n
 match h : nmb n, hl with
 | [a, b, c, d, e, f, g, i], _ => rfl
end Go.Proofs.YtbfepgjeecndiaaGreat

/- codec.Uint and its reference, over every offset and width. -/
namespace Go.Proofs.YtbfepgjeecndiaaGreat
set_option maxRecDepth 100000
set_option maxHeartbeats 1000000
open Go.RowKit
set_option linter.unusedVariables false
set_option linter.unusedSimpArgs false
attribute [local go_sem ↓] Go.wp_at_zero Go.wp_at_succ
def flw (len at_ n : Int) : Bool := decide (0 ≤ at_ ∧ at_ ≤ len ∧ n ≤ len - at_)
theorem codFollow_any (A : Option Addr) (len c : Nat) (at_ n : Int) (w : World) (hl : len ≤ 9223372036854775807) :
  Calls Tryz.prog 101 #[.slice A len c, .int .i64 at_, .int .i64 n] w fun e w' => e = .returned (.bool (flw len at_ n)) ∧ w = w' := by
 by_cases h1 : 0 ≤ at_
 ·by_cases h2 : at_ ≤ (len : Int)
  ·by_cases h3 : n ≤ (len : Int) - at_
   ·have hf : flw len at_ n = true := by unfold flw; simp only [decide_eq_true_eq]; exact ⟨h1, h2, h3⟩
    rw [hf]; clear hf
    go_enter Tryz.func101, Tryz.ntmps101
    go_wp2_with fail
    go_ret
    exact ⟨rfl, rfl⟩
   ·have hf : flw len at_ n = false := by unfold flw; simp only [decide_eq_false_iff_not]; omega
    have h3' : decide (n ≤ (len : Int) - at_) = false := decide_eq_false h3
    rw [hf]; clear hf
    go_enter Tryz.func101, Tryz.ntmps101
    go_wp2_with fail
    go_ret
    exact ⟨rfl, rfl⟩
  ·have hf : flw len at_ n = false := by unfold flw; simp only [decide_eq_false_iff_not]; omega
   have h2' : decide (at_ ≤ (len : Int)) = false := decide_eq_false h2
   rw [hf]; clear hf
   go_enter Tryz.func101, Tryz.ntmps101
   go_wp2_with fail
   go_ret
   exact ⟨rfl, rfl⟩
 ·have hf : flw len at_ n = false := by unfold flw; simp only [decide_eq_false_iff_not]; omega
  have h1' : decide (0 ≤ at_) = false := decide_eq_false h1
  rw [hf]; clear hf
  go_enter Tryz.func101, Tryz.ntmps101
  go_wp2_with fail
  go_ret
  exact ⟨rfl, rfl⟩
theorem or_byte' (a : Nat) (c : UInt8) (ha : a < 72057594037927936) : bits .or .u64 (IntKind.u64.wrap ((a : Int) * 256)) (c.toNat : Int) = ((a * 256 + c.toNat : Nat) : Int) := or_byte a c ha
theorem pow_le7 (a k : Nat) (h : a < 256 ^ k) (hk : k < 8) : a < 72057594037927936 := Nat.lt_of_lt_of_le h (Nat.pow_le_pow_right (n := 256) (j := 7) (by omega) (by omega))
def numAt (l : List UInt8) (at_ width : Nat) : Nat := beNat ((l.drop at_).take width)
theorem uint_yes (A : Option Addr) (n c : Nat) (l : List UInt8) (at_ width : Nat) (w : World) (h : SlB w A n c l) (h1 : 1 ≤ width) (h8 : width ≤ 8) (hf : at_ + width ≤ n) :
  Calls Tryz.prog 82 #[.slice A n c, .int .i64 (at_ : Int), .int .i64 (width : Int)] w fun e w' => e = .returned (.tuple #[.int .u64 (numAt l at_ width : Int), .bool true]) ∧ w = w' := by
 have hle := h.le
 have hcap := h.cap
 have hlen := h.len
 have e1 : decide ((width : Int) < 1) = false := decide_eq_false (by omega)
 have e2 : decide ((8 : Int) < (width : Int)) = false := decide_eq_false (by omega)
 have hfl : flw n at_ width = true := by unfold flw; simp only [decide_eq_true_eq]; omega
 have b1 : ¬ c = at_ := by omega
 obtain ⟨b, o, rfl, hra, hbl⟩ := h.at (by omega)
 go_enter Tryz.func82, Tryz.ntmps82
 go_wp2_with (go_at_call 101; refine (codFollow_any _ _ _ _ _ _ (by omega)).mono ?_; rintro e w1 ⟨rfl, rfl⟩; rw [hfl])
 go_loop [8, 31] (fun v i => ∃ k : Nat, k ≤ width ∧ i = .int .i64 (k : Int) ∧ v = .int .u64 ((numAt l at_ k : Nat) : Int)) (fun _ i => width - (intOf i).toNat)
 case atStart => exact ⟨0, by omega, rfl, by simp [numAt, beNat]⟩
 case round =>
  obtain ⟨k, hk, rfl, rfl⟩ := hrel
  by_cases hlt : k < width
  ·have hcell := byte_at hra (at_ + k) (by omega)
   rw [← Nat.add_assoc] at hcell
   have hd : (l.drop at_)[k]'(by simp; omega) = l[at_ + k]'(by omega) := by simp
   have HS := Lib.hid (show numAt l at_ (k + 1) = numAt l at_ k * 256 + (l[at_ + k]'(by omega)).toNat by unfold numAt; rw [take_at _ _ (by simp; omega), beNat_snoc, hd])
   have hor := or_byte' (numAt l at_ k) (l[at_ + k]'(by omega)) (pow_le7 _ k (beNat_take_lt _ _ (by simp; omega)) (by omega))
   clear hd
   generalize numAt l at_ k = a at *
   generalize (l[at_ + k]'(by omega)) = x at *
   go_wp2_with fail
   go_round
   case rel => exact ⟨k + 1, by omega, by go_num, by rw [HS.out]; go_num⟩
   case measure => simp [intOf]; omega
  ·obtain rfl : k = width := by omega
   go_wp2_with fail
   go_ret2
   exact ⟨rfl, rfl⟩
theorem uint_no (A : Option Addr) (n c : Nat) (at_ width : Int) (w : World) (hn : n ≤ 9223372036854775807) (h1 : 1 ≤ width) (h8 : width ≤ 8) (hf : flw n at_ width = false) :
  Calls Tryz.prog 82 #[.slice A n c, .int .i64 at_, .int .i64 width] w fun e w' => e = .returned (.tuple #[.int .u64 0, .bool false]) ∧ w = w' := by
 have e1 : decide (width < 1) = false := decide_eq_false (by omega)
 have e2 : decide (8 < width) = false := decide_eq_false (by omega)
 go_enter Tryz.func82, Tryz.ntmps82
 go_wp2_with (go_at_call 101; refine (codFollow_any _ _ _ _ _ _ (by omega)).mono ?_; rintro e w1 ⟨rfl, rfl⟩; rw [hf])
 go_ret2
 exact ⟨rfl, rfl⟩
end Go.Proofs.YtbfepgjeecndiaaGreat

/- extended, AppendUint (the program's): the bytes of a number behind bytes. -/
namespace Go.Proofs.YtbfepgjeecndiaaGreat
set_option maxRecDepth 100000
set_option maxHeartbeats 4000000
open Go.RowKit
set_option linter.unusedVariables false
set_option linter.unusedSimpArgs false
def zbs (n : Nat) : List Value := List.replicate n (.int .u8 0)
theorem zbs_length (n : Nat) : (zbs n).length = n := by simp [zbs]
theorem made_bytes (n : Nat) : madeCells (Value.int .u8 0).cells (n * 1) = (zbs n).toArray := by
 apply Array.ext_getElem?
 intro j
 simp only [madeCells, zbs, Nat.mul_one, Array.getElem?_map, Value.cells, List.getElem?_toArray, List.getElem?_replicate]
 by_cases hj : j < n
 ·simp [hj, Array.getElem?_range, Nat.mod_one]
 ·simp [hj]
theorem hmkX (n k : Nat) (h : n + k ≤ 140737488355328) (w : World) : (Instr.makeSlice 28 (.int .i64 (n : Int)) (.int .i64 ((n : Int) + (k : Int)))).run Tryz.prog w = .ok (.slice (some ⟨w.heap.size, 0, none⟩) n (n + k)) (w.alloc (.cells (zbs (n + k)).toArray 5)) := by
 obtain ⟨i, hi, hz, hs, hby⟩ := bytesE.get
 have h := run_make (P := Tryz.prog) w 28 5 i (.int .u8 0) bytesE.ut hi hz .i64 .i64 n ((n : Int) + k) (by omega) (by omega) (by rw [hby]; omega) (by omega)
 rw [hs, show ((n : Int) + k).toNat = n + k from by omega, made_bytes, show ((n : Int)).toNat = n from by omega] at h
 exact h
theorem own_cells {w : World} {base g cap n : Nat} {e : TypeId} {l : List UInt8} {cur : Array Value} (hh : w.heap[g]? = some (.cells cur e (0, 0))) (hb : base ≤ g) (hl : l.length = n) (hc : n ≤ cap) (hm : cap ≤ 140737488355328) (hs : cur.size = cap) (ht : cur.toList.take n = bcs l) : OwnB w base e (some ⟨g, 0, none⟩) n cap l :=
 ⟨by rw [bcs_length, hl, Nat.mul_one], .inr ⟨g, cap, cur, rfl, hb, hh, hc, by simp only [maxLen]; omega, by omega, by rw [Nat.mul_one]; exact ht⟩⟩
theorem extended_any (A : Option Addr) (n c : Nat) (l : List UInt8) (k : Nat) (w : World) (h : SlB w A n c l) (hk : n + k ≤ 140737488355328) :
  Calls Tryz.prog 70 #[.slice A n c, .int .i64 (k : Int)] w fun e w' => ∃ A', e = .returned (.slice A' n (n + k)) ∧ OwnB w' w.heap.size 5 A' n (n + k) l ∧ Ext w w' := by
 have hmk := hmkX n k hk
 have HL := Lib.hid h.len
 have HR := Lib.hid (h.rd.ext ((Ext.refl w).alloc' (.cells (zbs (n + k)).toArray 5)))
 clear h
 go_enter Tryz.func70, Tryz.ntmps70
 go_wp2_with (with_reducible refine wpList_copy_splice rfl _ _ _ _ rfl 5 Tryz.underlying28 (by kernel_rfl) _ _ _ _ _ _ rfl rfl w.heap.size 0 (zbs (n + k)) 5 (heap_alloc_new w _) (bcs l) ?c1 ?c2 ?c3 (bcs_one l) w.heap.size w ((Ext.refl w).alloc' _) (Nat.le_refl _) ?_)
 case c1 => rw [bcs_length, HL.out]; exact (Nat.min_self n).symm
 case c2 => exact fun hp => HR.out.src hp
 case c3 => rw [bcs_length, zbs_length, HL.out]; omega
 intro w1 hb1 he1
 go_wp2_with fail
 go_ret
 exact ⟨_, rfl, own_cells hb1.out (Nat.le_refl _) HL.out (by omega) hk (by rw [List.size_toArray, length_splice _ _ _ (by rw [bcs_length, zbs_length, HL.out]; omega), zbs_length]) (by simp [splice, bcs_length, HL.out]), he1⟩
theorem beBytes_get (k n j : Nat) (hj : j < k) : (beBytes k n)[j]'(by rw [beBytes_length]; exact hj) = UInt8.ofNat (n / 256 ^ (k - 1 - j) % 256) := by
 induction k generalizing n j with
 | zero => omega
 | succ k ih =>
  simp only [beBytes]
  by_cases h : j < k
  ·rw [List.getElem_append_left (by rw [beBytes_length]; exact h), ih _ _ h, Nat.div_div_eq_div_mul, show k + 1 - 1 - j = (k - 1 - j) + 1 from by omega, Nat.pow_succ, Nat.mul_comm 256]
  ·obtain rfl : j = k := by omega
   rw [List.getElem_append_right (by rw [beBytes_length]; omega)]
   simp [beBytes_length]
theorem beBytes_step (k n i : Nat) (hi : i < k) : (beBytes k n).take (k - i) = (beBytes k n).take (k - (i + 1)) ++ [toB ((n : Int) / 2 ^ (8 * i))] := by
 rw [show k - i = k - (i + 1) + 1 from by omega, List.take_succ_eq_append_getElem (by rw [beBytes_length]; omega), beBytes_get _ _ _ (by omega)]
 congr 2
 rw [show k - 1 - (k - (i + 1)) = i from by omega, show (256 : Nat) = 2 ^ 8 from rfl, ← Nat.pow_mul]
 unfold toB
 rw [show ((n : Int) / 2 ^ (8 * i)) = ((n / 2 ^ (8 * i) : Nat) : Int) from by simp]
 congr 1
theorem au_rel {q wd n : Nat} {l : List UInt8} {v : UInt64} {A : Option Addr} {c : Nat} {w : World} {base : Nat} {e : TypeId} {z : Int} (h : OwnB w base e A (n + q + 1) c (l ++ ((beBytes wd v.toNat).take q ++ [toB z]))) (kk : Nat) (hk : q = wd - (kk + 1)) (hb : (beBytes wd v.toNat).take (wd - kk) = (beBytes wd v.toNat).take (wd - (kk + 1)) ++ [toB ((v.toNat : Int) / 2 ^ (8 * kk))]) (hw : kk < wd) (hz : z = (v.toNat : Int) / 2 ^ (8 * kk)) : OwnB w base e A (n + (wd - kk)) c (l ++ (beBytes wd v.toNat).take (wd - kk)) := by
 subst hk
 rw [hb, ← hz, show n + (wd - kk) = n + (wd - (kk + 1)) + 1 from by omega]
 exact h
theorem appendUint_any (A : Option Addr) (n c : Nat) (l : List UInt8) (v : UInt64) (wd : Nat) (hwd : wd ≤ 8) (w : World) (h : SlB w A n c l) (hn : n ≤ 140737488351232) :
  Calls Tryz.prog 37 #[.slice A n c, .int .u64 (un v), .int .i64 (wd : Int)] w fun e w' => ∃ A' c', e = .returned (.slice A' (n + wd) c') ∧ OwnB w' w.heap.size 5 A' (n + wd) c' (l ++ beBytes wd v.toNat) ∧ Ext w w' := by
 have k0 : (0 : Int) ≤ (wd : Int) := by omega
 have k1 : (wd : Int) ≤ 8 := by omega
 have hv0 := un_nonneg v
 have HV1 := Lib.hid (un_lt v)
 have HS := Lib.hid h
 clear h
 go_enter Tryz.func37, Tryz.ntmps37
 go_wp2_with fail
 refine (extended_any A n c l wd _ HS.out (by omega)).mono ?_
 rintro e w1 ⟨A1, rfl, hO1, hE1⟩
 have HO1 := Lib.hid hO1
 have HE1 := Lib.hid hE1
 clear hO1 hE1
 go_wp2_with fail
 go_loopw [7, 8] (fun x i wr => ∃ (j : Nat) (A2 : Option Addr) (c2 : Nat), j ≤ wd ∧ i = .int .i64 ((j : Int) - 1) ∧ x = .slice A2 (n + (wd - j)) c2 ∧ OwnB wr w.heap.size 5 A2 (n + (wd - j)) c2 (l ++ (beBytes wd v.toNat).take (wd - j)) ∧ Ext w wr) (fun _ i _ => (intOf i + 1).toNat)
 case atStart => exact ⟨wd, A1, n + wd, Nat.le_refl _, rfl, by simp, by simpa using HO1.out, HE1.out⟩
 case round =>
  obtain ⟨j, A2, c2, hj, rfl, rfl, hO, hE⟩ := hrel
  have HO := Lib.hid hO
  have HE := Lib.hid hE
  clear hO hE
  by_cases hlt : 0 < j
  ·obtain ⟨i, rfl⟩ : ∃ i, j = i + 1 := ⟨j - 1, by omega⟩
   obtain ⟨kk, hkk⟩ : ∃ kk, kk = i := ⟨_, rfl⟩
   have HB := Lib.hid (beBytes_step wd v.toNat kk (by omega))
   have HKK := Lib.hid hkk
   clear hkk
   obtain ⟨q, hq⟩ : ∃ q, q = wd - (i + 1) := ⟨_, rfl⟩
   rw [← hq] at HO ⊢
   have HQ := Lib.hid (show q = wd - (kk + 1) from by rw [HKK.out]; exact hq)
   have hq8 : q ≤ 8 := by omega
   clear hq
   rw [show ((i + 1 : Nat) : Int) - 1 = (i : Int) from by omega]
   have hi7 : i = 0 ∨ i = 1 ∨ i = 2 ∨ i = 3 ∨ i = 4 ∨ i = 5 ∨ i = 6 ∨ i = 7 := by omega
   rcases hi7 with rfl | rfl | rfl | rfl | rfl | rfl | rfl | rfl
   all_goals (
    go_wp2_with (at_builtin; go_must (refine wpList_appB bytesE rfl (.tmp 21) (.tmp 27) rfl w.heap.size A2 _ c2 _ rfl (HO.out.alloc _) _ 1 1 [toB _] rfl (SlB.new1 _ _ _ _ _ rfl (toB_eq _)) (by omega) (HE.out.alloc' _).size w (HE.out.alloc' _) ?_))
    intro A4 c4 w4 hO4 hE4 hs4
    have HO4 := Lib.hid (au_rel hO4 kk HQ.out HB.out (by have := HKK.out; omega) (by rw [HKK.out]; simp [un]))
    clear hO4
    go_wp2_with fail
    go_roundw
    case rel => exact ⟨kk, A4, c4, by have := HKK.out; omega, by rw [HKK.out]; go_num, by have := HKK.out; have := HQ.out; congr 1; omega, HO4.out, hE4⟩
    case measure => simp [intOf])
  ·obtain rfl : j = 0 := by omega
   have i1 : ((0 : Nat) : Int) - 1 < 0 := by omega
   go_wp2_with fail
   go_ret
   exact ⟨A2, c2, by simp, by have := HO.out; rwa [Nat.sub_zero, List.take_of_length_le (by rw [beBytes_length]; omega)] at this, HE.out⟩
end Go.Proofs.YtbfepgjeecndiaaGreat

namespace Go.Proofs.YtbfepgjeecndiaaGreat
open Go.RowKit
set_option linter.unusedVariables false
set_option linter.unusedSimpArgs false
attribute [local go_sem ↓] Go.wp_at_zero Go.wp_at_succ
/-! slices of names -/
theorem nmb_zero : nmb 0 = List.replicate 8 0 := by decide
end Go.Proofs.YtbfepgjeecndiaaGreat
/- A slice literal of one name; a struct or array built of parts. -/
namespace Go.Proofs.YtbfepgjeecndiaaGreat
open Go.RowKit
set_option linter.unusedVariables false
set_option linter.unusedSimpArgs false
theorem fold_arr (ds cs : Array Value) (o : Nat) : ds.zipIdx.foldl (fun cs (x : Value × Nat) => cs.setIfInBounds (o + x.2) x.1) cs = (ds.toList.zipIdx 0).foldl (fun a p => a.setIfInBounds (o + p.2) p.1) cs := by
 rw [← Array.foldl_toList, Array.toList_zipIdx]
theorem fold_whole (ds cs : Array Value) (h : ds.size = cs.size) : (ds.toList.zipIdx 0).foldl (fun a p => a.setIfInBounds (0 + p.2) p.1) cs = ds := by
 apply Array.ext_getElem?
 intro j
 rw [foldl_set_get]
 by_cases hj : j < ds.size
 ·rw [if_pos (by simp; omega)]; simp
 ·rw [if_neg (by simp; omega), Array.getElem?_eq_none (by omega), Array.getElem?_eq_none (by omega)]
@[go_sem] theorem fold_nmc (n : UInt64) (Z : Array Value) (hZ : Z.size = 8) : Array.foldl (fun cs x => cs.setIfInBounds x.snd x.fst) Z (nmc n).zipIdx 0 (nmc n).size = nmc n := by
 have h := fold_arr (nmc n) Z 0
 rw [fold_whole _ _ (by rw [nmc_size, hZ])] at h
 simpa using h
@[go_sem] theorem fold_nmc8 (n : UInt64) (Z : Array Value) (hZ : Z.size = 8) : Array.foldl (fun cs x => cs.setIfInBounds x.snd x.fst) Z (nmc n).zipIdx 0 8 = nmc n := by
 have h := fold_nmc n Z hZ
 rwa [nmc_size] at h
attribute [go_sem] nmc_size
def nb8 (n : UInt64) (i : Nat) : Int := (((nmb n).getD i 0).toNat : Int)
theorem nmc_nb8 (n : UInt64) : #[.int .u8 (nb8 n 0), .int .u8 (nb8 n 1), .int .u8 (nb8 n 2), .int .u8 (nb8 n 3), .int .u8 (nb8 n 4), .int .u8 (nb8 n 5), .int .u8 (nb8 n 6), .int .u8 (nb8 n 7)] = nmc n := by
 unfold nmc nb8
 rw [show bcs (nmb n) = bcs [(nmb n).getD 0 0, (nmb n).getD 1 0, (nmb n).getD 2 0, (nmb n).getD 3 0, (nmb n).getD 4 0, (nmb n).getD 5 0, (nmb n).getD 6 0, (nmb n).getD 7 0] from congrArg bcs (nmb_list n)]
 rfl
attribute [go_sem] nmc_nb8
theorem cells8 {w : World} {g : Nat} {t : TypeId} {n : UInt64} (h : Blk w g t (nmc n)) : ∀ i, i < 8 → w.cell? ⟨g, i, none⟩ = some (.int .u8 (nb8 n i)) := fun i hi => by
 rw [h.cell i]; exact nmc_get n i hi
end Go.Proofs.YtbfepgjeecndiaaGreat

/- Two names held against each other. -/
namespace Go.Proofs.YtbfepgjeecndiaaGreat
open Go.RowKit
set_option linter.unusedVariables false
set_option linter.unusedSimpArgs false
def litB (c : UInt8) : Lit := .int .u8 (c.toNat : Int)
theorem litB_wf (c : UInt8) : (Lit.int .u8 (c.toNat : Int)).wf = true := by
 have := c.toNat_lt
 simp [Lit.wf, IntKind.min, IntKind.max, IntKind.signed, IntKind.bits]; omega
theorem keyByte (c : UInt8) : Tryz.prog.keyLits 1 5 [.int .u8 (c.toNat : Int)] = some [litB c] := by
 unfold Program.keyLits
 rw [Tryz.underlying5]
 simp only
 rw [if_pos ⟨trivial, litB_wf c⟩]; rfl
theorem cellsU8' : Tryz.prog.cellsOf 5 = 1 := by kernel_rfl
theorem cellsN : Tryz.prog.cellsOf 44 = 8 := by kernel_rfl
theorem keyName (n : UInt64) : Tryz.prog.keyLits 2 44 (bcs (nmb n)) = some ((nmb n).map litB) := by
 unfold Program.keyLits
 rw [Tryz.underlying44]
 simp only
 rw [if_pos (by rw [bcs_length, nmb_length, cellsN]), cellsU8']
 rw [nmb_list n]
 generalize (nmb n).getD 0 0 = x0
 generalize (nmb n).getD 1 0 = x1
 generalize (nmb n).getD 2 0 = x2
 generalize (nmb n).getD 3 0 = x3
 generalize (nmb n).getD 4 0 = x4
 generalize (nmb n).getD 5 0 = x5
 generalize (nmb n).getD 6 0 = x6
 generalize (nmb n).getD 7 0 = x7
 rw [show List.range 8 = [0, 1, 2, 3, 4, 5, 6, 7] from rfl]
 simp only [bcs, bv, List.map_cons, List.map_nil, List.mapM_cons, List.mapM_nil, Nat.zero_mul, Nat.one_mul, Nat.mul_one, List.drop_zero, List.drop_succ_cons, List.take_succ_cons, List.take_zero, keyByte]
 rfl
theorem litB_inj {a b : UInt64} (h : (nmb a).map litB = (nmb b).map litB) : a = b := by
 refine nmb_inj ?_
 have hf : ∀ x y : UInt8, litB x = litB y → x = y := fun x y e => by
  unfold litB at e; injection e with _ e; exact UInt8.toNat_inj.1 (by omega)
 exact List.map_inj_right hf |>.1 h
theorem run_eqN (a b : UInt64) (w : World) : (binOp .eql 44 (.agg (nmc a)) (.agg (nmc b))).run Tryz.prog w = .ok (.bool (decide (a = b))) w := by
 have hE := run_equalIn_deep (P := Tryz.prog) 9998 2 44 (by kernel_rfl)
 have hfm : ∀ n : UInt64, (Value.agg (nmc n)).formed Tryz.prog 44 = true := fun n => by
  simp [Value.formed, Tryz.underlying44, nmc_size, cellsN]
 have hk : ∀ n : UInt64, Tryz.prog.keyLits 2 44 (Value.agg (nmc n)).cells.toList = some ((nmb n).map litB) := fun n => by
  show Tryz.prog.keyLits 2 _ (nmc n).toList = _
  rw [nmc_toList]; exact keyName n
 obtain ⟨r, hr, hiff⟩ := hE w 2 2 _ _ _ _ (hfm a) (hfm b) (hk a) (hk b)
 rw [run_eql_struct]
 have hr' : (Op.equalIn 10000 44 (.agg (nmc a)) (.agg (nmc b))).run Tryz.prog w = .ok r w := hr
 rw [hr']
 have : r = decide (a = b) := by
  by_cases h : a = b
  ·subst h; simp [hiff.2 rfl]
  ·have : r ≠ true := fun e => h (litB_inj (hiff.1 e))
   simp [h, this]
 rw [this]; rfl
end Go.Proofs.YtbfepgjeecndiaaGreat

/- The reference's AppendUint, num, name. -/
namespace Go.Proofs.YtbfepgjeecndiaaGreat
set_option maxRecDepth 100000
set_option maxHeartbeats 4000000
open Go.RowKit
set_option linter.unusedVariables false
set_option linter.unusedSimpArgs false
attribute [local go_sem ↓] Go.wp_at_zero Go.wp_at_succ
theorem refAppendUint_any (A : Option Addr) (n c : Nat) (l : List UInt8) (v : UInt64) (wd : Nat) (hwd1 : 1 ≤ wd) (hwd : wd ≤ 8) (w : World) (h : SlB w A n c l) (hn : n ≤ 140737488351232) :
  Calls Tryz.prog 42 #[.slice A n c, .int .u64 (un v), .int .i64 (wd : Int)] w fun e w' => ∃ A' c', e = .returned (.slice A' (n + wd) c') ∧ OwnB w' w.heap.size 5 A' (n + wd) c' (l ++ beBytes wd v.toNat) ∧ Ext w w' := by
 have k0 : (0 : Int) < (wd : Int) := by omega
 have k1 : (wd : Int) ≤ 8 := by omega
 have hv0 := un_nonneg v
 have HV1 := Lib.hid (un_lt v)
 have HS := Lib.hid (h.ext ((Ext.refl w).alloc' (.cells #[] 5)))
 clear h
 go_enter Tryz.func42, Tryz.ntmps42
 go_wp2_with (at_builtin; go_must (refine wpList_appB bytesE rfl (.tmp 9) (.tmp 10) rfl w.heap.size _ 0 _ [] rfl (OwnB.made w w.heap.size #[] 0 _ rfl (Nat.le_refl _) (by omega) rfl) A n c l rfl HS.out (by omega) ((Ext.refl w).alloc' _).size w ((Ext.refl w).alloc' _) ?_))
 intro A1 c1 w1 hO1 hE1 hs1
 have HO1 := Lib.hid (show OwnB w1 w.heap.size 5 A1 n c1 l from by simpa using hO1)
 have HE1 := Lib.hid hE1
 clear hO1 hE1
 go_wp2_with fail
 go_loopw [7, 8] (fun x i wr => ∃ (j : Nat) (A2 : Option Addr) (c2 : Nat), j ≤ wd ∧ i = .int .i64 ((j : Int) - 1) ∧ x = .slice A2 (n + (wd - j)) c2 ∧ OwnB wr w.heap.size 5 A2 (n + (wd - j)) c2 (l ++ (beBytes wd v.toNat).take (wd - j)) ∧ Ext w wr) (fun _ i _ => (intOf i + 1).toNat)
 case atStart => exact ⟨wd, A1, c1, Nat.le_refl _, rfl, by simp, by simpa using HO1.out, HE1.out⟩
 case round =>
  obtain ⟨j, A2, c2, hj, rfl, rfl, hO, hE⟩ := hrel
  have HO := Lib.hid hO
  have HE := Lib.hid hE
  clear hO hE
  by_cases hlt : 0 < j
  ·obtain ⟨i, rfl⟩ : ∃ i, j = i + 1 := ⟨j - 1, by omega⟩
   obtain ⟨kk, hkk⟩ : ∃ kk, kk = i := ⟨_, rfl⟩
   have HB := Lib.hid (beBytes_step wd v.toNat kk (by omega))
   have HKK := Lib.hid hkk
   clear hkk
   obtain ⟨q, hq⟩ : ∃ q, q = wd - (i + 1) := ⟨_, rfl⟩
   rw [← hq] at HO ⊢
   have HQ := Lib.hid (show q = wd - (kk + 1) from by rw [HKK.out]; exact hq)
   have hq8 : q ≤ 8 := by omega
   clear hq
   rw [show ((i + 1 : Nat) : Int) - 1 = (i : Int) from by omega]
   have hi7 : i = 0 ∨ i = 1 ∨ i = 2 ∨ i = 3 ∨ i = 4 ∨ i = 5 ∨ i = 6 ∨ i = 7 := by omega
   rcases hi7 with rfl | rfl | rfl | rfl | rfl | rfl | rfl | rfl
   all_goals (
    go_wp2_with (at_builtin; go_must (refine wpList_appB bytesE rfl (.tmp 20) (.tmp 27) rfl w.heap.size A2 _ c2 _ rfl (HO.out.alloc _) _ 1 1 [toB _] rfl (SlB.new1 _ _ _ _ _ rfl (toB_eq _)) (by omega) (HE.out.alloc' _).size w (HE.out.alloc' _) ?_))
    intro A4 c4 w4 hO4 hE4 hs4
    have HO4 := Lib.hid (au_rel hO4 kk HQ.out HB.out (by have := HKK.out; omega) (by rw [HKK.out]; simp [un]))
    clear hO4
    go_wp2_with fail
    go_roundw
    case rel => exact ⟨kk, A4, c4, by have := HKK.out; omega, by rw [HKK.out]; go_num, by have := HKK.out; have := HQ.out; congr 1; omega, HO4.out, hE4⟩
    case measure => simp [intOf])
  ·obtain rfl : j = 0 := by omega
   have i1 : ((0 : Nat) : Int) - 1 < 0 := by omega
   go_wp2_with fail
   go_ret
   exact ⟨A2, c2, by simp, by have := HO.out; rwa [Nat.sub_zero, List.take_of_length_le (by rw [beBytes_length]; omega)] at this, HE.out⟩
def beI (wd : Nat) (z : Int) : List UInt8 := beBytes wd (z % 18446744073709551616).toNat
theorem beI_length (wd : Nat) (z : Int) : (beI wd z).length = wd := beBytes_length _ _
def uI (z : Int) : UInt64 := UInt64.ofNat (z % 18446744073709551616).toNat
theorem uI_un (z : Int) : IntKind.u64.wrap z = un (uI z) := by
 rw [IntKind.wrap_u64]; unfold un uI; rw [UInt64.toNat_ofNat_of_lt' (by simp [UInt64.size]; omega)]; omega
theorem uI_nat (z : Int) : (uI z).toNat = (z % 18446744073709551616).toNat := by
 unfold uI; rw [UInt64.toNat_ofNat_of_lt' (by simp [UInt64.size]; omega)]
end Go.Proofs.YtbfepgjeecndiaaGreat
