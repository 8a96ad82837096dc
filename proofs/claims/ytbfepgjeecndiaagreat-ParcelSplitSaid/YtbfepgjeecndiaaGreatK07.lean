/- codec.Bytes, and the program's cursor: Bytes, OK. -/
import Derived.Test.YtbfepgjeecndiaaGreatK06
namespace Go.Proofs.YtbfepgjeecndiaaGreat
set_option maxRecDepth 100000
set_option maxHeartbeats 4000000
open Go.RowKit
set_option linter.unusedVariables false
set_option linter.unusedSimpArgs false
attribute [local go_sem ↓] Go.wp_at_zero Go.wp_at_succ
def blobOk (r : List UInt8) : Bool := decide (2 ≤ r.length ∧ 2 + beNat (r.take 2) ≤ r.length)
def rBlob (s : Option (List UInt8)) : List UInt8 := match s with
 | none => []
 | some r => if blobOk r then (r.drop 2).take (beNat (r.take 2)) else []
def rAft (s : Option (List UInt8)) : Option (List UInt8) := match s with
 | none => none
 | some r => if blobOk r then some (r.drop (2 + beNat (r.take 2))) else none
def BytesNo (w : World) (e : Ending) (w' : World) : Prop := e = .returned (.tuple #[.slice none 0 0, .int .i64 0, .bool false]) ∧ w = w'
theorem codBytes_no1 (A : Option Addr) (n c : Nat) (k : Nat) (w : World) (hn : n ≤ 140737488355328) (hk : k ≤ n) (hf : ¬ k + 2 ≤ n) :
  Calls Tryz.prog 84 #[.slice A n c, .int .i64 (k : Int)] w (BytesNo w) := by
 have HU := Lib.hid (uint_no A n c (k : Int) 2 w (by omega) (by omega) (by omega) (by unfold flw; simp only [decide_eq_false_iff_not]; omega))
 go_enter Tryz.func84, Tryz.ntmps84
 go_wp2_with fail
 refine HU.out.mono ?_
 rintro e w1 ⟨rfl, rfl⟩
 go_wp2_with fail
 go_ret3
 exact ⟨rfl, rfl⟩
theorem codBytes_no2 (A : Option Addr) (n c : Nat) (l : List UInt8) (k : Nat) (w : World) (h : SlB w A n c l) (hn : n ≤ 140737488355328) (hf : k + 2 ≤ n) (hg : ¬ k + 2 + numAt l k 2 ≤ n) :
  Calls Tryz.prog 84 #[.slice A n c, .int .i64 (k : Int)] w (BytesNo w) := by
 have HU := Lib.hid (uint_yes A n c l k 2 w h (by omega) (by omega) hf)
 have hv := numAt_small l k 2 (by omega)
 obtain ⟨v, hve⟩ : ∃ v, numAt l k 2 = v := ⟨_, rfl⟩
 obtain ⟨K, hK⟩ : ∃ K, k + 2 = K := ⟨_, rfl⟩
 rw [hve] at HU hg hv
 have hKi : (k : Int) + 2 = (K : Int) := by omega
 have HF := Lib.hid (codFollow_any A n c (K : Int) (v : Int) w (by omega))
 rw [show flw n (K : Int) (v : Int) = false from by unfold flw; simp only [decide_eq_false_iff_not]; omega] at HF
 have hvw : IntKind.i64.wrap (v : Int) = (v : Int) := by rw [IntKind.wrap_i64]; omega
 clear hve h hg hK
 go_enter Tryz.func84, Tryz.ntmps84
 go_wp2_with fail
 refine HU.out.mono ?_
 rintro e w1 ⟨rfl, rfl⟩
 go_wp2_with (go_at_call 101; (with_reducible refine HF.out.mono ?_); rintro e w2 ⟨rfl, rfl⟩)
 go_ret3
 exact ⟨rfl, rfl⟩
def BytesYes (w : World) (v j : Nat) (p : List UInt8) (e : Ending) (w' : World) : Prop := ∃ A' c', e = .returned (.tuple #[.slice A' v c', .int .i64 (j : Int), .bool true]) ∧ OwnB w' w.heap.size 5 A' v c' p ∧ Ext w w'
theorem codBytes_yes (A : Option Addr) (n c : Nat) (l : List UInt8) (k : Nat) (w : World) (h : SlB w A n c l) (hn : n ≤ 140737488355328) (hf : k + 2 ≤ n) (hg : k + 2 + numAt l k 2 ≤ n) :
  Calls Tryz.prog 84 #[.slice A n c, .int .i64 (k : Int)] w (BytesYes w (numAt l k 2) (k + 2 + numAt l k 2) ((l.drop (k + 2)).take (numAt l k 2))) := by
 have HU := Lib.hid (uint_yes A n c l k 2 w h (by omega) (by omega) hf)
 have hle := h.le
 have hcap := h.cap
 have hlen := h.len
 obtain ⟨v, hve⟩ : ∃ v, numAt l k 2 = v := ⟨_, rfl⟩
 obtain ⟨K, hK⟩ : ∃ K, k + 2 = K := ⟨_, rfl⟩
 rw [hve] at HU hg ⊢
 rw [hK] at hg ⊢
 obtain ⟨E, hE⟩ : ∃ E, K + v = E := ⟨_, rfl⟩
 rw [hE] at hg ⊢
 have hKi : (k : Int) + 2 = (K : Int) := by omega
 have hEi : (K : Int) + (v : Int) = (E : Int) := by omega
 have hvb : 0 + v ≤ 140737488355328 := by omega
 have hKE : (K : Int) ≤ (E : Int) := by omega
 have hEc : (E : Int) ≤ (c : Int) := by omega
 have hEK : (E : Int) - (K : Int) = (v : Int) := by omega
 have hEKn : E - K = v := by omega
 have HF := Lib.hid (codFollow_any A n c (K : Int) (v : Int) w (by omega))
 rw [show flw n (K : Int) (v : Int) = true from by unfold flw; simp only [decide_eq_true_eq]; omega] at HF
 have hvw : IntKind.i64.wrap (v : Int) = (v : Int) := by rw [IntKind.wrap_i64]; omega
 obtain ⟨b, o, rfl, hra, hbl⟩ := h.at (by omega)
 by_cases hc : c = K
 ·have hv0 : v = 0 := by omega
  subst hv0
  have hn0 : OwnB w w.heap.size 5 none 0 0 [] := OwnB.nil w _ _
  subst hc
  obtain rfl : E = c := by omega
  clear hve h hg hK hE hra hlen hEi hEK hEKn hKE hEc
  rw [show ((0 : Nat) : Int) = 0 from rfl] at HU HF
  clear hvw
  go_enter Tryz.func84, Tryz.ntmps84
  go_wp2_with fail
  refine HU.out.mono ?_
  rintro e w1 ⟨rfl, rfl⟩
  go_wp2_with (first | (go_at_call 101; (with_reducible refine HF.out.mono ?_); rintro e w2 ⟨rfl, rfl⟩) | (at_builtin; go_must (refine wpList_appB bytesE rfl (.const (.slice none 0 0)) (.tmp 36) rfl w.heap.size none 0 0 [] rfl hn0 _ 0 0 [] rfl (SlB.empty w _ 0 (by omega)) (by omega) (Nat.le_refl _) w (Ext.refl w) ?_)))
  intro A2 c2 w2 hO2 hE2 hs2
  have HO2 := Lib.hid hO2
  clear hO2
  go_wp2_with fail
  go_ret3
  exact ⟨A2, c2, by simp, by simpa using HO2.out, hE2⟩
 ·have hn0 : OwnB w w.heap.size 5 none 0 0 [] := OwnB.nil w _ _
  have hs0 := (h.cut (k := K) (by omega) (by omega)).upto (k := v) (by omega)
  simp only [Option.map_some, Addr.add_mid] at hs0
  have HS := Lib.hid hs0
  clear hve h hg hK hE hra hlen hs0
  go_enter Tryz.func84, Tryz.ntmps84
  go_wp2_with fail
  refine HU.out.mono ?_
  rintro e w1 ⟨rfl, rfl⟩
  go_wp2_with (first | (go_at_call 101; (with_reducible refine HF.out.mono ?_); rintro e w2 ⟨rfl, rfl⟩) | (at_builtin; go_must (refine wpList_appB bytesE rfl (.const (.slice none 0 0)) (.tmp 36) rfl w.heap.size none 0 0 [] rfl hn0 (some ⟨b, o + K, none⟩) v (c - K) ((l.drop K).take v) rfl HS.out hvb (Nat.le_refl _) w (Ext.refl w) ?_)))
  intro A2 c2 w2 hO2 hE2 hs2
  have HO2 := Lib.hid hO2
  clear hO2
  go_wp2_with fail
  go_ret3
  exact ⟨A2, c2, by simp, by simpa using HO2.out, hE2⟩
theorem cur_bad {t : TypeId} {D : Nat} {w w4 : World} {B n c k : Nat} {A : Option Addr} {l : List UInt8} {b : Bool} (hB : Blk w B t #[.slice A n c, .int .i64 ((k : Nat) : Int), .bool b]) (hS : SlB w A n c l) (he : Ext w w4) (hk : k ≤ n) (hn : n ≤ 140737488355328) (hD : LowB D A n) : CurAt t D (w4.setCell ⟨B, 2, none⟩ (.bool true)) B none ∧ w.grownBy (w4.setCell ⟨B, 2, none⟩ (.bool true)) (some B) := by
 have hg : w.grownBy (w4.setCell ⟨B, 2, none⟩ (.bool true)) (some B) := World.grownBy.trans (grown_ext he _) (grown_set w4 B 2 _)
 exact ⟨cur_close hB hS hg _ ((hB.ext he).set 2 (.bool true)) rfl hk hn (fun r h => by cases h) hD, hg⟩
theorem cur_good {t : TypeId} {D : Nat} {w w4 : World} {B n c k j : Nat} {A : Option Addr} {l : List UInt8} (hB : Blk w B t #[.slice A n c, .int .i64 ((k : Nat) : Int), .bool false]) (hS : SlB w A n c l) (he : Ext w w4) (hj : j ≤ n) (hn : n ≤ 140737488355328) (hD : LowB D A n) : CurAt t D (w4.setCell ⟨B, 1, none⟩ (.int .i64 (j : Int))) B (some (l.drop j)) ∧ w.grownBy (w4.setCell ⟨B, 1, none⟩ (.int .i64 (j : Int))) (some B) := by
 have hg : w.grownBy (w4.setCell ⟨B, 1, none⟩ (.int .i64 (j : Int))) (some B) := World.grownBy.trans (grown_ext he _) (grown_set w4 B 1 _)
 exact ⟨cur_close hB hS hg _ ((hB.ext he).set 1 (.int .i64 (j : Int))) rfl hj hn (fun r h => by injection h with h; exact h.symm) hD, hg⟩
theorem blobOk_at {l : List UInt8} {n k : Nat} (hlen : l.length = n) (hk : k ≤ n) : blobOk (l.drop k) = decide (k + 2 ≤ n ∧ k + 2 + numAt l k 2 ≤ n) := by
 unfold blobOk numAt
 rw [List.length_drop, hlen]
 congr 1
 apply propext
 constructor
 ·rintro ⟨h1, h2⟩; constructor <;> omega
 ·rintro ⟨h1, h2⟩; constructor <;> omega
def BlobOut (D : Nat) (B : Nat) (w : World) (s : Option (List UInt8)) (e : Ending) (w' : World) : Prop :=
 ∃ A' n' c', e = .returned (.slice A' n' c') ∧ OwnB w' w.heap.size 5 A' n' c' (rBlob s) ∧ CurAt 101 D w' B (rAft s) ∧ w.grownBy w' (some B)
theorem cblob_any (D B : Nat) (s : Option (List UInt8)) (w : World) (h : CurAt 101 D w B s) :
  Calls Tryz.prog 52 #[.pointer (some ⟨B, 0, none⟩)] w (BlobOut D B w s) := by
 obtain ⟨A, n, c, l, k, hB, hS, hk, hn, hr, hD⟩ := h
 have hlen := hS.len
 have hc0 : w.cell? ⟨B, 0, none⟩ = some (.slice A n c) := hB.cell 0
 have hc1 : w.cell? ⟨B, 1, none⟩ = some (.int .i64 (k : Int)) := hB.cell 1
 have hc2 : w.cell? ⟨B, 2, none⟩ = some (.bool s.isNone) := hB.cell 2
 have HQ := Lib.hid (fun (W : World) (h : Ext w W) => show W.cell? ⟨B, 0, none⟩ = some (.slice A n c) ∧ W.cell? ⟨B, 1, none⟩ = some (.int .i64 (k : Int)) from ⟨(hB.ext h).cell 0, (hB.ext h).cell 1⟩)
 have HQ2 := Lib.hid (fun (W : World) (h : Ext w W) => show W.cell? ⟨B, 2, none⟩ = some (.bool s.isNone) ∧ W.frozen? ⟨B, 1, none⟩ = false ∧ W.frozen? ⟨B, 2, none⟩ = false from ⟨(hB.ext h).cell 2, (hB.ext h).frozen 1, (hB.ext h).frozen 2⟩)
 have HB := Lib.hid hB
 have HS := Lib.hid hS
 have HR := Lib.hid hr
 have hS' := hS.ext (Ext.refl w).drew'
 have hXd := (Ext.refl w).drew'
 have HOKA := Lib.hid (blobOk_at hlen hk)
 clear hB hS hr hlen
 by_cases hok : k + 2 ≤ n ∧ k + 2 + numAt l k 2 ≤ n
 ·have HU := Lib.hid (codBytes_yes A n c l k _ hS' hn hok.1 hok.2)
  obtain ⟨v, hv⟩ : ∃ v, numAt l k 2 = v := ⟨_, rfl⟩
  have HV := Lib.hid (show beNat ((l.drop k).take 2) = v from hv)
  have HOK := Lib.hid (show blobOk (l.drop k) = true by rw [HOKA.out]; exact decide_eq_true hok)
  rw [hv] at HU hok
  obtain ⟨j, hj⟩ : ∃ j, k + 2 + v = j := ⟨_, rfl⟩
  rw [hj] at HU hok
  have HJ := Lib.hid hj
  have HJN := Lib.hid hok.2
  clear hv hj hok hS'
  cases s with
  | none =>
   clear HR
   go_enter Tryz.func52, Tryz.ntmps52
   go_wp2_with fail
   go_region_held3 (fun w' => w'.cell? ⟨B, 0, none⟩ = some (.slice A n c) ∧ w'.cell? ⟨B, 1, none⟩ = some (.int .i64 (k : Int))) (first | (with_reducible exact HQ.out _ hXd) | (with_reducible exact HQ.out _ hX4) | fail "CELLS") (first | (go_at_call 84; (with_reducible refine HU.out.mono ?_); rintro e w4 ⟨A4, c4, rfl, hO4, he4⟩; have hX4 := hXd.trans he4) | fail "ARM")
   clear hc0 hc1 hc2
   obtain ⟨hc2, hf1, hf2⟩ := HQ2.out _ hX4
   have hc2 : w4.cell? ⟨B, 2, none⟩ = some (.bool true) := hc2
   have HF := Lib.hid (cur_bad HB.out HS.out hX4 hk hn hD)
   clear hXd hX4 he4 hO4
   go_wp2_with fail
   go_ret
   exact ⟨none, 0, 0, rfl, OwnB.nil _ _ _, HF.out.1, HF.out.2⟩
  | some r =>
   have HRr := Lib.hid (show r = l.drop k from HR.out r rfl)
   clear HR
   go_enter Tryz.func52, Tryz.ntmps52
   go_wp2_with fail
   go_region_held3 (fun w' => w'.cell? ⟨B, 0, none⟩ = some (.slice A n c) ∧ w'.cell? ⟨B, 1, none⟩ = some (.int .i64 (k : Int))) (first | (with_reducible exact HQ.out _ hXd) | (with_reducible exact HQ.out _ hX4) | fail "CELLS") (first | (go_at_call 84; (with_reducible refine HU.out.mono ?_); rintro e w4 ⟨A4, c4, rfl, hO4, he4⟩; have hX4 := hXd.trans he4) | fail "ARM")
   clear hc0 hc1 hc2
   obtain ⟨hc2, hf1, hf2⟩ := HQ2.out _ hX4
   have hc2 : w4.cell? ⟨B, 2, none⟩ = some (.bool false) := hc2
   have HF := Lib.hid (cur_good HB.out HS.out hX4 HJN.out hn hD)
   have HX4 := Lib.hid hX4
   have HO4 := Lib.hid hO4
   clear hXd hX4 he4 hO4
   go_wp2_with fail
   go_ret
   refine ⟨A4, v, c4, rfl, ?_, ?_, HF.out.2⟩
   ·refine World.ownsRow.kept ?_ (grown_set w4 B 1 _) (.inr (Ne.symm (own_other HO4.out (HB.out.ext HX4.out) (by decide))))
    have := HO4.out
    rw [HRr.out]
    show OwnB w4 w.heap.size _ A4 v c4 (if blobOk (l.drop k) then ((l.drop k).drop 2).take (beNat ((l.drop k).take 2)) else [])
    rw [HOK.out, if_pos rfl, HV.out, List.drop_drop]; exact this
   ·rw [HRr.out]
    show CurAt _ _ _ _ (if blobOk (l.drop k) then some ((l.drop k).drop (2 + beNat ((l.drop k).take 2))) else none)
    rw [HOK.out, if_pos rfl, HV.out, List.drop_drop, show k + (2 + v) = j by rw [← HJ.out]; omega]
    exact HF.out.1
 ·have HU := Lib.hid (show Calls Tryz.prog 84 #[.slice A n c, .int .i64 (k : Int)] w.drew (BytesNo w.drew) from by
   by_cases h1 : k + 2 ≤ n
   ·exact codBytes_no2 A n c l k _ hS' hn h1 (fun h2 => hok ⟨h1, h2⟩)
   ·exact codBytes_no1 A n c k _ hn hk h1)
  have HOK := Lib.hid (show blobOk (l.drop k) = false by rw [HOKA.out]; exact decide_eq_false hok)
  clear hok hS'
  have HN := Lib.hid (show rBlob s = [] ∧ rAft s = none from by
   cases s with
   | none => exact ⟨rfl, rfl⟩
   | some r =>
    rw [HR.out r rfl]
    constructor
    ·show (if blobOk (l.drop k) then _ else _) = _
     rw [HOK.out]; rfl
    ·show (if blobOk (l.drop k) then _ else _) = _
     rw [HOK.out]; rfl)
  have HF := Lib.hid (cur_bad HB.out HS.out hXd hk hn hD)
  cases s with
  | none =>
   have hc2 : w.cell? ⟨B, 2, none⟩ = some (.bool true) := hc2
   obtain ⟨_, hf1, hf2⟩ := HQ2.out _ hXd
   clear HR
   go_enter Tryz.func52, Tryz.ntmps52
   go_wp2_with fail
   go_region_held3 (fun w' => w'.cell? ⟨B, 0, none⟩ = some (.slice A n c) ∧ w'.cell? ⟨B, 1, none⟩ = some (.int .i64 (k : Int))) (first | (with_reducible exact HQ.out _ hXd) | fail "CELLS") (first | (go_at_call 84; (with_reducible refine HU.out.mono ?_); rintro e w4 ⟨rfl, rfl⟩) | fail "ARM")
   clear hc0 hc1
   go_wp2_with fail
   go_ret
   exact ⟨none, 0, 0, rfl, by rw [HN.out.1]; exact OwnB.nil _ _ _, by rw [HN.out.2]; exact HF.out.1, HF.out.2⟩
  | some r =>
   have hc2 : w.cell? ⟨B, 2, none⟩ = some (.bool false) := hc2
   obtain ⟨_, hf1, hf2⟩ := HQ2.out _ hXd
   clear HR
   go_enter Tryz.func52, Tryz.ntmps52
   go_wp2_with fail
   go_region_held3 (fun w' => w'.cell? ⟨B, 0, none⟩ = some (.slice A n c) ∧ w'.cell? ⟨B, 1, none⟩ = some (.int .i64 (k : Int))) (first | (with_reducible exact HQ.out _ hXd) | fail "CELLS") (first | (go_at_call 84; (with_reducible refine HU.out.mono ?_); rintro e w4 ⟨rfl, rfl⟩) | fail "ARM")
   clear hc0 hc1
   go_wp2_with fail
   go_ret
   exact ⟨none, 0, 0, rfl, by rw [HN.out.1]; exact OwnB.nil _ _ _, by rw [HN.out.2]; exact HF.out.1, HF.out.2⟩
theorem cok_any (D B : Nat) (s : Option (List UInt8)) (w : World) (h : CurAt 101 D w B s) :
  Calls Tryz.prog 49 #[.pointer (some ⟨B, 0, none⟩)] w fun e w' => e = .returned (.bool s.isSome) ∧ w = w' := by
 obtain ⟨A, n, c, l, k, hB, hS, hk, hn, hr, hD⟩ := h
 have hc2 : w.cell? ⟨B, 2, none⟩ = some (.bool s.isNone) := hB.cell 2
 clear hB hS hr
 cases s with
 | none =>
  have hc2 : w.cell? ⟨B, 2, none⟩ = some (.bool true) := hc2
  go_enter Tryz.func49, Tryz.ntmps49
  go_wp2_with fail
  go_ret
  exact ⟨rfl, rfl⟩
 | some r =>
  have hc2 : w.cell? ⟨B, 2, none⟩ = some (.bool false) := hc2
  go_enter Tryz.func49, Tryz.ntmps49
  go_wp2_with fail
  go_ret
  exact ⟨rfl, rfl⟩
end Go.Proofs.YtbfepgjeecndiaaGreat

/- What is written is read again: a block's text. -/
namespace Go.Proofs.YtbfepgjeecndiaaGreat
open Go.RowKit
set_option linter.unusedVariables false
set_option linter.unusedSimpArgs false
theorem toB_toNat {z : Int} (h0 : 0 ≤ z) (h1 : z < 256) : ((toB z).toNat : Int) = z := by rw [← toB_eq, Int.emod_eq_of_lt h0 h1]
end Go.Proofs.YtbfepgjeecndiaaGreat
/- Transactions in a row; what is written is read again: a transaction. -/
namespace Go.Proofs.YtbfepgjeecndiaaGreat
open Go.RowKit
set_option linter.unusedVariables false
set_option linter.unusedSimpArgs false
theorem rNum_be (wd : Nat) (z : Int) (h0 : 0 ≤ z) (h1 : z < 256 ^ wd) (h2 : z < 18446744073709551616) (r : List UInt8) : rNum wd (some (beI wd z ++ r)) = z := by
 have h : ¬ (beI wd z ++ r).length < wd := by rw [List.length_append, beI_length]; omega
 simp only [rNum, if_neg h]
 rw [List.take_append_of_le_length (by rw [beI_length]; exact Nat.le_refl _), List.take_of_length_le (by rw [beI_length]; exact Nat.le_refl _)]
 unfold beI
 rw [beNat_beBytes]
 have e : (z % 18446744073709551616).toNat = z.toNat := by rw [Int.emod_eq_of_lt h0 h2]
 rw [e]
 have hlt : z.toNat < 256 ^ wd := by
  have : ((256 ^ wd : Nat) : Int) = (256 : Int) ^ wd := by simp
  omega
 rw [Nat.mod_eq_of_lt hlt]; omega
theorem rRest_be (wd : Nat) (z : Int) (r : List UInt8) : rRest wd (some (beI wd z ++ r)) = some r := by
 have h : ¬ (beI wd z ++ r).length < wd := by rw [List.length_append, beI_length]; omega
 simp only [rRest, if_neg h]
 rw [List.drop_append_of_le_length (by rw [beI_length]; exact Nat.le_refl _), List.drop_of_length_le (by rw [beI_length]; exact Nat.le_refl _), List.nil_append]
theorem blob_take (p r : List UInt8) (h : p.length ≤ 65535) : beNat ((blob p ++ r).take 2) = p.length := by
 have := rNum_be 2 (p.length : Int) (by omega) (by omega) (by omega) (p ++ r)
 unfold blob
 rw [List.append_assoc]
 have hn : ¬ (beI 2 (p.length : Int) ++ (p ++ r)).length < 2 := by rw [List.length_append, beI_length]; omega
 simp only [rNum, if_neg hn] at this
 omega
theorem blob_drop (p r : List UInt8) : (blob p ++ r).drop 2 = p ++ r := by
 unfold blob
 rw [List.append_assoc, List.drop_append_of_le_length (by rw [beI_length]; exact Nat.le_refl _), List.drop_of_length_le (by rw [beI_length]; exact Nat.le_refl _), List.nil_append]
theorem blobOk_blob (p r : List UInt8) (h : p.length ≤ 65535) : blobOk (blob p ++ r) = true := by
 unfold blobOk
 rw [blob_take p r h, List.length_append, blob_length]
 exact decide_eq_true (by omega)
theorem rBlob_blob (p r : List UInt8) (h : p.length ≤ 65535) : rBlob (some (blob p ++ r)) = p := by
 simp only [rBlob, blobOk_blob p r h, if_true]
 rw [blob_take p r h, blob_drop, List.take_append_of_le_length (Nat.le_refl _), List.take_of_length_le (Nat.le_refl _)]
theorem rAft_blob (p r : List UInt8) (h : p.length ≤ 65535) : rAft (some (blob p ++ r)) = some r := by
 simp only [rAft, blobOk_blob p r h, if_true]
 rw [blob_take p r h, ← List.drop_drop, blob_drop, List.drop_append_of_le_length (Nat.le_refl _), List.drop_of_length_le (Nat.le_refl _), List.nil_append]
end Go.Proofs.YtbfepgjeecndiaaGreat

/- Signed votes and texts compared; lists of them. -/
namespace Go.Proofs.YtbfepgjeecndiaaGreat
set_option maxRecDepth 100000
set_option maxHeartbeats 4000000
open Go.RowKit
set_option linter.unusedVariables false
set_option linter.unusedSimpArgs false
attribute [local go_sem ↓] Go.wp_at_zero Go.wp_at_succ
theorem strV_eq' (p q : List UInt8) : ((strV p).toList == (strV q).toList) = decide (p = q) := by
 rw [Bool.eq_iff_iff]
 simp only [beq_iff_eq, decide_eq_true_eq]
 exact ⟨fun h => strV_list h, fun h => by rw [h]⟩
theorem bEqual_any (A : Option Addr) (n c : Nat) (p : List UInt8) (A' : Option Addr) (n' c' : Nat) (q : List UInt8) (w : World) (h : SlB w A n c p) (h' : SlB w A' n' c' q) :
  Calls Tryz.prog 25 #[.slice A n c, .slice A' n' c'] w fun e w' => e = .returned (.bool (decide (p = q))) ∧ w = w' := by
 have r1 := run_strV h
 have r2 := run_strV h'
 have HV := Lib.hid (strV_eq' p q)
 clear h h'
 go_enter Tryz.func25, Tryz.ntmps25
 go_wp2_with fail
 go_ret
 exact ⟨by rw [← HV.out]; rfl, rfl⟩
theorem equalVotes_any (R Q : SgR) (w : World) (hR : R.ok w) (hQ : Q.ok w) :
  Calls Tryz.prog 65 #[.agg (sgA R), .agg (sgA Q)] w fun e w' => e = .returned (.bool (eqSg R Q)) ∧ Ext w w' := by
 have hE := ((Ext.refl w).alloc' (.cells (sgA R) 48)).alloc' (.cells (sgA Q) 48)
 have HB1 := Lib.hid ((Blk.new w 48 (sgA R)).alloc (.cells (sgA Q) 48))
 have HB2 := Lib.hid (show Blk ((w.alloc (.cells (sgA R) 48)).alloc (.cells (sgA Q) 48)) (w.heap.size + 1) 48 (sgA Q) from Blk.newAt _ _ _ _ (by simp))
 have HE := Lib.hid hE
 have HX := Lib.hid (fun (W : World) (h : Ext w W) => bEqual_any R.A R.n R.c R.sig Q.A Q.n Q.c Q.sig W (hR.sig.ext h) (hQ.sig.ext h))
 have hq := fun W => run_eqVt R.v Q.v hR.v hQ.v W
 have hqi := fun W => eqIn_Vt R.v Q.v hR.v hQ.v W
 have HV := Lib.hid (show eqSg R Q = (decide (R.v = Q.v) && decide (R.sig = Q.sig)) from rfl)
 obtain ⟨w0, hw0⟩ : ∃ w0, (w.alloc (.cells (sgA R) 48)).alloc (.cells (sgA Q) 48) = w0 := ⟨_, rfl⟩
 rw [hw0] at HB1 HB2 HE
 have r1 : w0.rangeAt w.heap.size 0 (vtL R.v) := rangeAt_take (k := 22) (rangeAt_of_blk HB1.out)
 have r2 : w0.rangeAt (w.heap.size + 1) 0 (vtL Q.v) := rangeAt_take (k := 22) (rangeAt_of_blk HB2.out)
 have p1 : w0.cell? ⟨w.heap.size, 22, none⟩ = some (.slice R.A R.n R.c) := HB1.out.cell 22
 have p2 : w0.cell? ⟨w.heap.size + 1, 22, none⟩ = some (.slice Q.A Q.n Q.c) := HB2.out.cell 22
 clear hR hQ hE
 by_cases hv : R.v = Q.v
 ·have HV' := Lib.hid (show eqSg R Q = decide (R.sig = Q.sig) by rw [HV.out]; simp [hv])
  rw [decide_eq_true hv] at hq hqi
  clear hv HV
  go_enter Tryz.func65, Tryz.ntmps65
  go_wp2_with (first | (with_reducible refine wpList_loadVt rfl (.tmp 5) rfl w.heap.size 0 rfl R.v r1 ?_) | (with_reducible refine wpList_loadVt rfl (.tmp 7) rfl (w.heap.size + 1) 0 rfl Q.v r2 ?_) | (go_at_call 25; refine (HX.out _ HE.out).mono ?_; rintro e w1 ⟨rfl, rfl⟩))
  go_ret
  exact ⟨by rw [HV'.out]; rfl, HE.out⟩
 ·have HV' := Lib.hid (show eqSg R Q = false by rw [HV.out]; simp [hv])
  rw [decide_eq_false hv] at hq hqi
  clear hv HV
  go_enter Tryz.func65, Tryz.ntmps65
  go_wp2_with (first | (with_reducible refine wpList_loadVt rfl (.tmp 5) rfl w.heap.size 0 rfl R.v r1 ?_) | (with_reducible refine wpList_loadVt rfl (.tmp 7) rfl (w.heap.size + 1) 0 rfl Q.v r2 ?_))
  go_ret
  exact ⟨by rw [HV'.out]; rfl, HE.out⟩
end Go.Proofs.YtbfepgjeecndiaaGreat

/- Lists in ascending order without repetitions: the insertion, the compaction, one answer. Plain: no program in sight. -/
namespace Go.Proofs.YtbfepgjeecndiaaGreat
open Go.RowKit
set_option linter.unusedVariables false
set_option linter.unusedSimpArgs false
set_option linter.unusedSectionVars false
section
variable {β : Type} [DecidableEq β]
structure STO (lt : β → β → Bool) : Prop where
 irrefl : ∀ x, lt x x = false
 trans : ∀ x y z, lt x y = true → lt y z = true → lt x z = true
 total : ∀ x y, lt x y = false → lt y x = false → x = y
variable {lt : β → β → Bool}
theorem STO.asymm (h : STO lt) {x y : β} (hxy : lt x y = true) : lt y x = false := by
 cases hyx : lt y x with
 | false => rfl
 | true => have := h.trans x y x hxy hyx; rw [h.irrefl] at this; cases this
theorem STO.ntrans (h : STO lt) {x y z : β} (h1 : lt x y = false) (h2 : lt y z = false) : lt x z = false := by
 cases hxz : lt x z with
 | false => rfl
 | true =>
  cases hyx : lt y x with
  | true => have := h.trans y x z hyx hxz; rw [h2] at this; cases this
  | false =>
   obtain rfl := h.total x y h1 hyx
   rw [h2] at hxz; cases hxz
def Asc (lt : β → β → Bool) (L : List β) : Prop := L.Pairwise fun x y => lt x y = true
def insO (lt : β → β → Bool) (x : β) : List β → List β
 | [] => [x]
 | y :: r => if lt y x = true then y :: insO lt x r else if y = x then y :: r else x :: y :: r
def insAll (lt : β → β → Bool) (acc L : List β) : List β := L.foldl (fun acc x => insO lt x acc) acc
def canonO (lt : β → β → Bool) (L : List β) : List β := insAll lt [] L
theorem mem_insO (h : STO lt) (x y : β) (L : List β) : y ∈ insO lt x L ↔ y = x ∨ y ∈ L := by
 induction L with
 | nil => simp [insO]
 | cons z r ih =>
  unfold insO
  split
  ·simp only [List.mem_cons, ih]
   constructor
   ·rintro (h | h | h) <;> simp [h]
   ·rintro (h | h | h) <;> simp [h]
  ·split
   ·rename_i h1 h2; subst h2; simp only [List.mem_cons]
    constructor
    ·rintro (h | h) <;> simp [h]
    ·rintro (h | h | h) <;> simp [h]
   ·simp only [List.mem_cons]
theorem asc_insO (h : STO lt) (x : β) (L : List β) (hL : Asc lt L) : Asc lt (insO lt x L) := by
 induction L with
 | nil => simp [insO, Asc]
 | cons z r ih =>
  unfold Asc at hL ih ⊢
  obtain ⟨h1, h2⟩ := List.pairwise_cons.1 hL
  unfold insO
  split
  ·rename_i hz
   refine List.pairwise_cons.2 ⟨fun y hy => ?_, ih h2⟩
   rcases (mem_insO h x y r).1 hy with rfl | hy
   ·exact hz
   ·exact h1 y hy
  ·rename_i hz
   split
   ·exact hL
   ·rename_i hne
    have hxz : lt x z = true := by
     cases hh : lt x z with
     | true => rfl
     | false => exact absurd (h.total z x (by simpa using hz) hh) hne
    refine List.pairwise_cons.2 ⟨fun y hy => ?_, hL⟩
    rcases List.mem_cons.1 hy with rfl | hy
    ·exact hxz
    ·exact h.trans _ _ _ hxz (h1 y hy)
theorem mem_insAll (h : STO lt) (y : β) (L acc : List β) : y ∈ insAll lt acc L ↔ y ∈ acc ∨ y ∈ L := by
 induction L generalizing acc with
 | nil => simp [insAll]
 | cons x r ih =>
  show y ∈ insAll lt (insO lt x acc) r ↔ _
  rw [ih, mem_insO h, List.mem_cons]
  constructor
  ·rintro ((h | h) | h) <;> simp [h]
  ·rintro (h | h | h) <;> simp [h]
theorem asc_insAll (h : STO lt) (L acc : List β) (ha : Asc lt acc) : Asc lt (insAll lt acc L) := by
 induction L generalizing acc with
 | nil => exact ha
 | cons x r ih => exact ih _ (asc_insO h x acc ha)
theorem mem_canonO (h : STO lt) (y : β) (L : List β) : y ∈ canonO lt L ↔ y ∈ L := by
 unfold canonO; rw [mem_insAll h]; simp
theorem asc_canonO (h : STO lt) (L : List β) : Asc lt (canonO lt L) := asc_insAll h L [] List.Pairwise.nil
theorem asc_uniq (h : STO lt) : ∀ (L M : List β), Asc lt L → Asc lt M → (∀ y, y ∈ L ↔ y ∈ M) → L = M
 | [], [], _, _, _ => rfl
 | [], y :: s, _, _, he => by have := (he y).2 (by simp); simp at this
 | x :: r, [], _, _, he => by have := (he x).1 (by simp); simp at this
 | x :: r, y :: s, hL, hM, he => by
  unfold Asc at hL hM
  obtain ⟨a1, a2⟩ := List.pairwise_cons.1 hL
  obtain ⟨b1, b2⟩ := List.pairwise_cons.1 hM
  have hxy : x = y := by
   rcases List.mem_cons.1 ((he x).1 (by simp)) with e | e
   ·exact e
   ·rcases List.mem_cons.1 ((he y).2 (by simp)) with e' | e'
    ·exact e'.symm
    ·have h1 := b1 x e
     have h2 := a1 y e'
     rw [h.asymm h1] at h2; cases h2
  subst hxy
  rw [asc_uniq h r s a2 b2 (fun z => by
   have hz := he z
   simp only [List.mem_cons] at hz
   constructor
   ·intro hr
    rcases hz.1 (Or.inr hr) with e | e
    ·subst e; have := a1 z hr; rw [h.irrefl] at this; cases this
    ·exact e
   ·intro hs
    rcases hz.2 (Or.inr hs) with e | e
    ·subst e; have := b1 z hs; rw [h.irrefl] at this; cases this
    ·exact e)]
theorem canonO_congr (h : STO lt) {L M : List β} (he : ∀ y, y ∈ L ↔ y ∈ M) : canonO lt L = canonO lt M :=
 asc_uniq h _ _ (asc_canonO h L) (asc_canonO h M) (fun y => by rw [mem_canonO h, mem_canonO h, he])
def compA : β → List β → List β
 | _, [] => []
 | p, y :: r => if y = p then compA p r else y :: compA y r
def compO : List β → List β
 | [] => []
 | x :: r => x :: compA x r
theorem mem_compA (y : β) : ∀ (L : List β) (p : β), y ∈ p :: compA p L ↔ y ∈ p :: L := by
 intro L
 induction L with
 | nil => intro p; rfl
 | cons x r ih =>
  intro p
  unfold compA
  split
  ·rename_i e; subst e
   rw [ih x]; simp
  ·rename_i e
   rw [List.mem_cons, ih x, List.mem_cons, List.mem_cons, List.mem_cons]
theorem mem_compO (y : β) (L : List β) : y ∈ compO L ↔ y ∈ L := by
 cases L with
 | nil => rfl
 | cons x r => exact mem_compA y r x
def Wsc (lt : β → β → Bool) (L : List β) : Prop := L.Pairwise fun x y => lt y x = false
theorem asc_compA (h : STO lt) : ∀ (L : List β) (p : β), Wsc lt (p :: L) → Asc lt (p :: compA p L) := by
 intro L
 induction L with
 | nil => intro p _; exact List.pairwise_singleton _ _
 | cons x r ih =>
  intro p hW
  unfold Wsc at hW
  obtain ⟨h1, h2⟩ := List.pairwise_cons.1 hW
  obtain ⟨h3, h4⟩ := List.pairwise_cons.1 h2
  unfold compA
  split
  ·rename_i e; subst e; exact ih x h2
  ·rename_i e
   have hx := ih x h2
   have hpx : lt p x = true := by
    cases hh : lt p x with
    | true => rfl
    | false => exact absurd (h.total x p (h1 x (by simp)) hh) e
   refine List.pairwise_cons.2 ⟨fun y hy => ?_, hx⟩
   rcases List.mem_cons.1 hy with rfl | hy
   ·exact hpx
   ·exact h.trans _ _ _ hpx ((List.pairwise_cons.1 hx).1 y hy)
theorem asc_compO (h : STO lt) {L : List β} (hW : Wsc lt L) : Asc lt (compO L) := by
 cases L with
 | nil => exact List.Pairwise.nil
 | cons x r => exact asc_compA h r x hW
theorem compO_canon (h : STO lt) {L M : List β} (hW : Wsc lt M) (he : ∀ y, y ∈ M ↔ y ∈ L) : compO M = canonO lt L :=
 asc_uniq h _ _ (asc_compO h hW) (asc_canonO h L) (fun y => by rw [mem_compO, mem_canonO h, he])
theorem compO_snoc (L : List β) (x y : β) : compO (L ++ [x, y]) = if y = x then compO (L ++ [x]) else compO (L ++ [x]) ++ [y] := by
 have key : ∀ (L : List β) (p x : β), compA p (L ++ [x, y]) = if y = x then compA p (L ++ [x]) else compA p (L ++ [x]) ++ [y] := by
  intro L
  induction L with
  | nil =>
   intro p x
   simp only [List.nil_append, compA]
   by_cases h1 : x = p
   ·subst h1; by_cases h2 : y = x <;> simp [h2]
   ·by_cases h2 : y = x <;> simp [h1, h2]
  | cons z r ih =>
   intro p x
   simp only [List.cons_append, compA]
   split
   ·exact ih p x
   ·rw [ih z x]; split <;> simp
 cases L with
 | nil => simp only [List.nil_append, compO, compA]; split <;> simp
 | cons z r =>
  simp only [List.cons_append, compO]
  rw [key]; split <;> simp
end
end Go.Proofs.YtbfepgjeecndiaaGreat
