/- extended, AppendUint (the program's): the bytes of a number behind bytes. -/
import Derived.Test.YtbfepgjeecndiaaGreatJ05
namespace Go.Proofs.YtbfepgjeecndiaaGreat
set_option maxRecDepth 100000
set_option maxHeartbeats 4000000
open Go.RowKit
set_option linter.unusedVariables false
set_option linter.unusedSimpArgs false
def zbs (n : Nat) : List Value := List.replicate n (.int .u8 0)
theorem zbs_length (n : Nat) : (zbs n).length = n := by simp [zbs]
theorem made_bytes (n : Nat) : madeCells (Value.int .u8 0).cells (n * 1) = (zbs n).toArray := by
 apply Array.ext_getElem?
 intro j
 simp only [madeCells, zbs, Nat.mul_one, Array.getElem?_map, Value.cells, List.getElem?_toArray, List.getElem?_replicate]
 by_cases hj : j < n
 ·simp [hj, Array.getElem?_range, Nat.mod_one]
 ·simp [hj]
theorem hmkX (n k : Nat) (h : n + k ≤ 140737488355328) (w : World) : (Instr.makeSlice 28 (.int .i64 (n : Int)) (.int .i64 ((n : Int) + (k : Int)))).run Tryz.prog w = .ok (.slice (some ⟨w.heap.size, 0, none⟩) n (n + k)) (w.alloc (.cells (zbs (n + k)).toArray 5)) := by
 obtain ⟨i, hi, hz, hs, hby⟩ := bytesE.get
 have h := run_make (P := Tryz.prog) w 28 5 i (.int .u8 0) bytesE.ut hi hz .i64 .i64 n ((n : Int) + k) (by omega) (by omega) (by rw [hby]; omega) (by omega)
 rw [hs, show ((n : Int) + k).toNat = n + k from by omega, made_bytes, show ((n : Int)).toNat = n from by omega] at h
 exact h
theorem own_cells {w : World} {base g cap n : Nat} {e : TypeId} {l : List UInt8} {cur : Array Value} (hh : w.heap[g]? = some (.cells cur e (0, 0))) (hb : base ≤ g) (hl : l.length = n) (hc : n ≤ cap) (hm : cap ≤ 140737488355328) (hs : cur.size = cap) (ht : cur.toList.take n = bcs l) : OwnB w base e (some ⟨g, 0, none⟩) n cap l :=
 ⟨by rw [bcs_length, hl, Nat.mul_one], .inr ⟨g, cap, cur, rfl, hb, hh, hc, by simp only [maxLen]; omega, by omega, by rw [Nat.mul_one]; exact ht⟩⟩
theorem extended_any (A : Option Addr) (n c : Nat) (l : List UInt8) (k : Nat) (w : World) (h : SlB w A n c l) (hk : n + k ≤ 140737488355328) :
  Calls Tryz.prog 70 #[.slice A n c, .int .i64 (k : Int)] w fun e w' => ∃ A', e = .returned (.slice A' n (n + k)) ∧ OwnB w' w.heap.size 5 A' n (n + k) l ∧ Ext w w' := by
 have hmk := hmkX n k hk
 have HL := Lib.hid h.len
 have HR := Lib.hid (h.rd.ext ((Ext.refl w).alloc' (.cells (zbs (n + k)).toArray 5)))
 clear h
 go_enter Tryz.func70, Tryz.ntmps70
 go_wp2_with (with_reducible refine wpList_copy_splice rfl _ _ _ _ rfl 5 Tryz.underlying28 (by kernel_rfl) _ _ _ _ _ _ rfl rfl w.heap.size 0 (zbs (n + k)) 5 (heap_alloc_new w _) (bcs l) ?c1 ?c2 ?c3 (bcs_one l) w.heap.size w ((Ext.refl w).alloc' _) (Nat.le_refl _) ?_)
 case c1 => rw [bcs_length, HL.out]; exact (Nat.min_self n).symm
 case c2 => exact fun hp => HR.out.src hp
 case c3 => rw [bcs_length, zbs_length, HL.out]; omega
 intro w1 hb1 he1
 go_wp2_with fail
 go_ret
 exact ⟨_, rfl, own_cells hb1.out (Nat.le_refl _) HL.out (by omega) hk (by rw [List.size_toArray, length_splice _ _ _ (by rw [bcs_length, zbs_length, HL.out]; omega), zbs_length]) (by simp [splice, bcs_length, HL.out]), he1⟩
theorem beBytes_get (k n j : Nat) (hj : j < k) : (beBytes k n)[j]'(by rw [beBytes_length]; exact hj) = UInt8.ofNat (n / 256 ^ (k - 1 - j) % 256) := by
 induction k generalizing n j with
 | zero => omega
 | succ k ih =>
  simp only [beBytes]
  by_cases h : j < k
  ·rw [List.getElem_append_left (by rw [beBytes_length]; exact h), ih _ _ h, Nat.div_div_eq_div_mul, show k + 1 - 1 - j = (k - 1 - j) + 1 from by omega, Nat.pow_succ, Nat.mul_comm 256]
  ·obtain rfl : j = k := by omega
   rw [List.getElem_append_right (by rw [beBytes_length]; omega)]
   simp [beBytes_length]
theorem beBytes_step (k n i : Nat) (hi : i < k) : (beBytes k n).take (k - i) = (beBytes k n).take (k - (i + 1)) ++ [toB ((n : Int) / 2 ^ (8 * i))] := by
 rw [show k - i = k - (i + 1) + 1 from by omega, List.take_succ_eq_append_getElem (by rw [beBytes_length]; omega), beBytes_get _ _ _ (by omega)]
 congr 2
 rw [show k - 1 - (k - (i + 1)) = i from by omega, show (256 : Nat) = 2 ^ 8 from rfl, ← Nat.pow_mul]
 unfold toB
 rw [show ((n : Int) / 2 ^ (8 * i)) = ((n / 2 ^ (8 * i) : Nat) : Int) from by simp]
 congr 1
theorem au_rel {q wd n : Nat} {l : List UInt8} {v : UInt64} {A : Option Addr} {c : Nat} {w : World} {base : Nat} {e : TypeId} {z : Int} (h : OwnB w base e A (n + q + 1) c (l ++ ((beBytes wd v.toNat).take q ++ [toB z]))) (kk : Nat) (hk : q = wd - (kk + 1)) (hb : (beBytes wd v.toNat).take (wd - kk) = (beBytes wd v.toNat).take (wd - (kk + 1)) ++ [toB ((v.toNat : Int) / 2 ^ (8 * kk))]) (hw : kk < wd) (hz : z = (v.toNat : Int) / 2 ^ (8 * kk)) : OwnB w base e A (n + (wd - kk)) c (l ++ (beBytes wd v.toNat).take (wd - kk)) := by
 subst hk
 rw [hb, ← hz, show n + (wd - kk) = n + (wd - (kk + 1)) + 1 from by omega]
 exact h
theorem appendUint_any (A : Option Addr) (n c : Nat) (l : List UInt8) (v : UInt64) (wd : Nat) (hwd : wd ≤ 8) (w : World) (h : SlB w A n c l) (hn : n ≤ 140737488351232) :
  Calls Tryz.prog 37 #[.slice A n c, .int .u64 (un v), .int .i64 (wd : Int)] w fun e w' => ∃ A' c', e = .returned (.slice A' (n + wd) c') ∧ OwnB w' w.heap.size 5 A' (n + wd) c' (l ++ beBytes wd v.toNat) ∧ Ext w w' := by
 have k0 : (0 : Int) ≤ (wd : Int) := by omega
 have k1 : (wd : Int) ≤ 8 := by omega
 have hv0 := un_nonneg v
 have HV1 := Lib.hid (un_lt v)
 have HS := Lib.hid h
 clear h
 go_enter Tryz.func37, Tryz.ntmps37
 go_wp2_with fail
 refine (extended_any A n c l wd _ HS.out (by omega)).mono ?_
 rintro e w1 ⟨A1, rfl, hO1, hE1⟩
 have HO1 := Lib.hid hO1
 have HE1 := Lib.hid hE1
 clear hO1 hE1
 go_wp2_with fail
 go_loopw [7, 8] (fun x i wr => ∃ (j : Nat) (A2 : Option Addr) (c2 : Nat), j ≤ wd ∧ i = .int .i64 ((j : Int) - 1) ∧ x = .slice A2 (n + (wd - j)) c2 ∧ OwnB wr w.heap.size 5 A2 (n + (wd - j)) c2 (l ++ (beBytes wd v.toNat).take (wd - j)) ∧ Ext w wr) (fun _ i _ => (intOf i + 1).toNat)
 case atStart => exact ⟨wd, A1, n + wd, Nat.le_refl _, rfl, by simp, by simpa using HO1.out, HE1.out⟩
 case round =>
  obtain ⟨j, A2, c2, hj, rfl, rfl, hO, hE⟩ := hrel
  have HO := Lib.hid hO
  have HE := Lib.hid hE
  clear hO hE
  by_cases hlt : 0 < j
  ·obtain ⟨i, rfl⟩ : ∃ i, j = i + 1 := ⟨j - 1, by omega⟩
   obtain ⟨kk, hkk⟩ : ∃ kk, kk = i := ⟨_, rfl⟩
   have HB := Lib.hid (beBytes_step wd v.toNat kk (by omega))
   have HKK := Lib.hid hkk
   clear hkk
   obtain ⟨q, hq⟩ : ∃ q, q = wd - (i + 1) := ⟨_, rfl⟩
   rw [← hq] at HO ⊢
   have HQ := Lib.hid (show q = wd - (kk + 1) from by rw [HKK.out]; exact hq)
   have hq8 : q ≤ 8 := by omega
   clear hq
   rw [show ((i + 1 : Nat) : Int) - 1 = (i : Int) from by omega]
   have hi7 : i = 0 ∨ i = 1 ∨ i = 2 ∨ i = 3 ∨ i = 4 ∨ i = 5 ∨ i = 6 ∨ i = 7 := by omega
   rcases hi7 with rfl | rfl | rfl | rfl | rfl | rfl | rfl | rfl
   all_goals (
    go_wp2_with (at_builtin; go_must (refine wpList_appB bytesE rfl (.tmp 21) (.tmp 27) rfl w.heap.size A2 _ c2 _ rfl (HO.out.alloc _) _ 1 1 [toB _] rfl (SlB.new1 _ _ _ _ _ rfl (toB_eq _)) (by omega) (HE.out.alloc' _).size w (HE.out.alloc' _) ?_))
    intro A4 c4 w4 hO4 hE4 hs4
    have HO4 := Lib.hid (au_rel hO4 kk HQ.out HB.out (by have := HKK.out; omega) (by rw [HKK.out]; simp [un]))
    clear hO4
    go_wp2_with fail
    go_roundw
    case rel => exact ⟨kk, A4, c4, by have := HKK.out; omega, by rw [HKK.out]; go_num, by have := HKK.out; have := HQ.out; congr 1; omega, HO4.out, hE4⟩
    case measure => simp [intOf])
  ·obtain rfl : j = 0 := by omega
   have i1 : ((0 : Nat) : Int) - 1 < 0 := by omega
   go_wp2_with fail
   go_ret
   exact ⟨A2, c2, by simp, by have := HO.out; rwa [Nat.sub_zero, List.take_of_length_le (by rw [beBytes_length]; omega)] at this, HE.out⟩
end Go.Proofs.YtbfepgjeecndiaaGreat

/- The reference's AppendUint, num, name. -/
namespace Go.Proofs.YtbfepgjeecndiaaGreat
set_option maxRecDepth 100000
set_option maxHeartbeats 4000000
open Go.RowKit
set_option linter.unusedVariables false
set_option linter.unusedSimpArgs false
attribute [local go_sem ↓] Go.wp_at_zero Go.wp_at_succ
theorem refAppendUint_any (A : Option Addr) (n c : Nat) (l : List UInt8) (v : UInt64) (wd : Nat) (hwd1 : 1 ≤ wd) (hwd : wd ≤ 8) (w : World) (h : SlB w A n c l) (hn : n ≤ 140737488351232) :
  Calls Tryz.prog 42 #[.slice A n c, .int .u64 (un v), .int .i64 (wd : Int)] w fun e w' => ∃ A' c', e = .returned (.slice A' (n + wd) c') ∧ OwnB w' w.heap.size 5 A' (n + wd) c' (l ++ beBytes wd v.toNat) ∧ Ext w w' := by
 have k0 : (0 : Int) < (wd : Int) := by omega
 have k1 : (wd : Int) ≤ 8 := by omega
 have hv0 := un_nonneg v
 have HV1 := Lib.hid (un_lt v)
 have HS := Lib.hid (h.ext ((Ext.refl w).alloc' (.cells #[] 5)))
 clear h
 go_enter Tryz.func42, Tryz.ntmps42
 go_wp2_with (at_builtin; go_must (refine wpList_appB bytesE rfl (.tmp 9) (.tmp 10) rfl w.heap.size _ 0 _ [] rfl (OwnB.made w w.heap.size #[] 0 _ rfl (Nat.le_refl _) (by omega) rfl) A n c l rfl HS.out (by omega) ((Ext.refl w).alloc' _).size w ((Ext.refl w).alloc' _) ?_))
 intro A1 c1 w1 hO1 hE1 hs1
 have HO1 := Lib.hid (show OwnB w1 w.heap.size 5 A1 n c1 l from by simpa using hO1)
 have HE1 := Lib.hid hE1
 clear hO1 hE1
 go_wp2_with fail
 go_loopw [7, 8] (fun x i wr => ∃ (j : Nat) (A2 : Option Addr) (c2 : Nat), j ≤ wd ∧ i = .int .i64 ((j : Int) - 1) ∧ x = .slice A2 (n + (wd - j)) c2 ∧ OwnB wr w.heap.size 5 A2 (n + (wd - j)) c2 (l ++ (beBytes wd v.toNat).take (wd - j)) ∧ Ext w wr) (fun _ i _ => (intOf i + 1).toNat)
 case atStart => exact ⟨wd, A1, c1, Nat.le_refl _, rfl, by simp, by simpa using HO1.out, HE1.out⟩
 case round =>
  obtain ⟨j, A2, c2, hj, rfl, rfl, hO, hE⟩ := hrel
  have HO := Lib.hid hO
  have HE := Lib.hid hE
  clear hO hE
  by_cases hlt : 0 < j
  ·obtain ⟨i, rfl⟩ : ∃ i, j = i + 1 := ⟨j - 1, by omega⟩
   obtain ⟨kk, hkk⟩ : ∃ kk, kk = i := ⟨_, rfl⟩
   have HB := Lib.hid (beBytes_step wd v.toNat kk (by omega))
   have HKK := Lib.hid hkk
   clear hkk
   obtain ⟨q, hq⟩ : ∃ q, q = wd - (i + 1) := ⟨_, rfl⟩
   rw [← hq] at HO ⊢
   have HQ := Lib.hid (show q = wd - (kk + 1) from by rw [HKK.out]; exact hq)
   have hq8 : q ≤ 8 := by omega
   clear hq
   rw [show ((i + 1 : Nat) : Int) - 1 = (i : Int) from by omega]
   have hi7 : i = 0 ∨ i = 1 ∨ i = 2 ∨ i = 3 ∨ i = 4 ∨ i = 5 ∨ i = 6 ∨ i = 7 := by omega
   rcases hi7 with rfl | rfl | rfl | rfl | rfl | rfl | rfl | rfl
   all_goals (
    go_wp2_with (at_builtin; go_must (refine wpList_appB bytesE rfl (.tmp 20) (.tmp 27) rfl w.heap.size A2 _ c2 _ rfl (HO.out.alloc _) _ 1 1 [toB _] rfl (SlB.new1 _ _ _ _ _ rfl (toB_eq _)) (by omega) (HE.out.alloc' _).size w (HE.out.alloc' _) ?_))
    intro A4 c4 w4 hO4 hE4 hs4
    have HO4 := Lib.hid (au_rel hO4 kk HQ.out HB.out (by have := HKK.out; omega) (by rw [HKK.out]; simp [un]))
    clear hO4
    go_wp2_with fail
    go_roundw
    case rel => exact ⟨kk, A4, c4, by have := HKK.out; omega, by rw [HKK.out]; go_num, by have := HKK.out; have := HQ.out; congr 1; omega, HO4.out, hE4⟩
    case measure => simp [intOf])
  ·obtain rfl : j = 0 := by omega
   have i1 : ((0 : Nat) : Int) - 1 < 0 := by omega
   go_wp2_with fail
   go_ret
   exact ⟨A2, c2, by simp, by have := HO.out; rwa [Nat.sub_zero, List.take_of_length_le (by rw [beBytes_length]; omega)] at this, HE.out⟩
def beI (wd : Nat) (z : Int) : List UInt8 := beBytes wd (z % 18446744073709551616).toNat
theorem beI_length (wd : Nat) (z : Int) : (beI wd z).length = wd := beBytes_length _ _
def uI (z : Int) : UInt64 := UInt64.ofNat (z % 18446744073709551616).toNat
theorem uI_un (z : Int) : IntKind.u64.wrap z = un (uI z) := by
 rw [IntKind.wrap_u64]; unfold un uI; rw [UInt64.toNat_ofNat_of_lt' (by simp [UInt64.size]; omega)]; omega
theorem uI_nat (z : Int) : (uI z).toNat = (z % 18446744073709551616).toNat := by
 unfold uI; rw [UInt64.toNat_ofNat_of_lt' (by simp [UInt64.size]; omega)]
end Go.Proofs.YtbfepgjeecndiaaGreat

/- Two names held against each other. -/
namespace Go.Proofs.YtbfepgjeecndiaaGreat
open Go.RowKit
set_option linter.unusedVariables false
set_option linter.unusedSimpArgs false
def litB (c : UInt8) : Lit := .int .u8 (c.toNat : Int)
theorem litB_wf (c : UInt8) : (Lit.int .u8 (c.toNat : Int)).wf = true := by
 have := c.toNat_lt
 simp [Lit.wf, IntKind.min, IntKind.max, IntKind.signed, IntKind.bits]; omega
theorem keyByte (c : UInt8) : Tryz.prog.keyLits 1 5 [.int .u8 (c.toNat : Int)] = some [litB c] := by
 unfold Program.keyLits
 rw [Tryz.underlying5]
 simp only
 rw [if_pos ⟨trivial, litB_wf c⟩]; rfl
theorem cellsU8' : Tryz.prog.cellsOf 5 = 1 := by kernel_rfl
theorem cellsN : Tryz.prog.cellsOf 44 = 8 := by kernel_rfl
theorem keyName (n : UInt64) : Tryz.prog.keyLits 2 44 (bcs (nmb n)) = some ((nmb n).map litB) := by
 unfold Program.keyLits
 rw [Tryz.underlying44]
 simp only
 rw [if_pos (by rw [bcs_length, nmb_length, cellsN]), cellsU8']
 rw [nmb_list n]
 generalize (nmb n).getD 0 0 = x0
 generalize (nmb n).getD 1 0 = x1
 generalize (nmb n).getD 2 0 = x2
 generalize (nmb n).getD 3 0 = x3
 generalize (nmb n).getD 4 0 = x4
 generalize (nmb n).getD 5 0 = x5
 generalize (nmb n).getD 6 0 = x6
 generalize (nmb n).getD 7 0 = x7
 rw [show List.range 8 = [0, 1, 2, 3, 4, 5, 6, 7] from rfl]
 simp only [bcs, bv, List.map_cons, List.map_nil, List.mapM_cons, List.mapM_nil, Nat.zero_mul, Nat.one_mul, Nat.mul_one, List.drop_zero, List.drop_succ_cons, List.take_succ_cons, List.take_zero, keyByte]
 rfl
theorem litB_inj {a b : UInt64} (h : (nmb a).map litB = (nmb b).map litB) : a = b := by
 refine nmb_inj ?_
 have hf : ∀ x y : UInt8, litB x = litB y → x = y := fun x y e => by
  unfold litB at e; injection e with _ e; exact UInt8.toNat_inj.1 (by omega)
 exact List.map_inj_right hf |>.1 h
theorem run_eqN (a b : UInt64) (w : World) : (binOp .eql 44 (.agg (nmc a)) (.agg (nmc b))).run Tryz.prog w = .ok (.bool (decide (a = b))) w := by
 have hE := run_equalIn_deep (P := Tryz.prog) 9998 2 44 (by kernel_rfl)
 have hfm : ∀ n : UInt64, (Value.agg (nmc n)).formed Tryz.prog 44 = true := fun n => by
  simp [Value.formed, Tryz.underlying44, nmc_size, cellsN]
 have hk : ∀ n : UInt64, Tryz.prog.keyLits 2 44 (Value.agg (nmc n)).cells.toList = some ((nmb n).map litB) := fun n => by
  show Tryz.prog.keyLits 2 _ (nmc n).toList = _
  rw [nmc_toList]; exact keyName n
 obtain ⟨r, hr, hiff⟩ := hE w 2 2 _ _ _ _ (hfm a) (hfm b) (hk a) (hk b)
 rw [run_eql_struct]
 have hr' : (Op.equalIn 10000 44 (.agg (nmc a)) (.agg (nmc b))).run Tryz.prog w = .ok r w := hr
 rw [hr']
 have : r = decide (a = b) := by
  by_cases h : a = b
  ·subst h; simp [hiff.2 rfl]
  ·have : r ≠ true := fun e => h (litB_inj (hiff.1 e))
   simp [h, this]
 rw [this]; rfl
end Go.Proofs.YtbfepgjeecndiaaGreat

/- The program's cursor: Name. -/
namespace Go.Proofs.YtbfepgjeecndiaaGreat
open Go.RowKit
set_option linter.unusedVariables false
set_option linter.unusedSimpArgs false
attribute [local go_sem ↓] Go.wp_at_zero Go.wp_at_succ
variable {D : Nat}
theorem zcs_nmc : zcs.toArray = nmc 0 := by
 unfold nmc; rw [nmb_zero]; rfl
theorem grown_setCells' (w : World) (g : Nat) : ∀ (vs : List Value) (o : Nat), w.grownBy (w.setCells g o vs) (some g) := by
 intro vs
 induction vs generalizing w with
 | nil => intro o; exact grown_refl w _
 | cons v r ih => intro o; exact World.grownBy.trans (grown_set w g o v) (ih _ (o + 1))
theorem drewN_ext (w : World) (n : Nat) : Ext w (w.drewN n) := ⟨rfl, rfl, rfl, Nat.le_refl _, fun _ _ => rfl⟩
theorem cur_close {t : TypeId} {w w' : World} {B : Nat} {A : Option Addr} {n c k j : Nat} {l : List UInt8} {q : Bool} {s : Option (List UInt8)} (hB : Blk w B t #[.slice A n c, .int .i64 ((k : Nat) : Int), .bool q]) (hS : SlB w A n c l) (hg : w.grownBy w' (some B)) (z : Int) (hB' : Blk w' B t #[.slice A n c, .int .i64 z, .bool s.isNone]) (hz : z = (j : Int)) (hk : j ≤ n) (hn : n ≤ 140737488355328) (hr : ∀ r, s = some r → r = l.drop j) (hD : LowB D A n) : CurAt t D w' B s := by
 subst hz; exact ⟨A, n, c, l, j, hB', slb_kept hS hB hg, hk, hn, hr, hD⟩
theorem rangeNm {w : World} {g : Nat} {t : TypeId} {n : UInt64} (h : Blk w g t (nmc n)) : w.rangeAt g 0 (bcs (nmb n)) := by have := rangeAt_of_blk h; rwa [nmc_toList] at this
end Go.Proofs.YtbfepgjeecndiaaGreat

/- validOp and Validate (the program's). -/
namespace Go.Proofs.YtbfepgjeecndiaaGreat
open Go.RowKit
set_option linter.unusedVariables false
set_option linter.unusedSimpArgs false
attribute [local go_sem ↓] Go.wp_at_zero Go.wp_at_succ
theorem nmc_zero_lit : nmc 0 = #[.int .u8 0, .int .u8 0, .int .u8 0, .int .u8 0, .int .u8 0, .int .u8 0, .int .u8 0, .int .u8 0] := zcs_nmc.symm
end Go.Proofs.YtbfepgjeecndiaaGreat

/- encode, Encode (the program's). -/
namespace Go.Proofs.YtbfepgjeecndiaaGreat
open Go.RowKit
set_option linter.unusedVariables false
set_option linter.unusedSimpArgs false
attribute [local go_sem ↓] Go.wp_at_zero Go.wp_at_succ
theorem OwnB.len {w : World} {base : Nat} {e : TypeId} {A : Option Addr} {n c : Nat} {l : List UInt8} (h : OwnB w base e A n c l) : l.length = n := h.sl.len
end Go.Proofs.YtbfepgjeecndiaaGreat
