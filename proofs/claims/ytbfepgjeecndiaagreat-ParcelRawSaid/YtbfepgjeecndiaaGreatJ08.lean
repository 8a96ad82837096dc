/- codec.Bytes, and the program's cursor: Bytes, OK. -/
import Derived.Test.YtbfepgjeecndiaaGreatJ06
namespace Go.Proofs.YtbfepgjeecndiaaGreat
set_option maxRecDepth 100000
set_option maxHeartbeats 4000000
open Go.RowKit
set_option linter.unusedVariables false
set_option linter.unusedSimpArgs false
attribute [local go_sem ↓] Go.wp_at_zero Go.wp_at_succ
def blobOk (r : List UInt8) : Bool := decide (2 ≤ r.length ∧ 2 + beNat (r.take 2) ≤ r.length)
def rBlob (s : Option (List UInt8)) : List UInt8 := match s with
 | none => []
 | some r => if blobOk r then (r.drop 2).take (beNat (r.take 2)) else []
def rAft (s : Option (List UInt8)) : Option (List UInt8) := match s with
 | none => none
 | some r => if blobOk r then some (r.drop (2 + beNat (r.take 2))) else none
def BytesNo (w : World) (e : Ending) (w' : World) : Prop := e = .returned (.tuple #[.slice none 0 0, .int .i64 0, .bool false]) ∧ w = w'
theorem codBytes_no1 (A : Option Addr) (n c : Nat) (k : Nat) (w : World) (hn : n ≤ 140737488355328) (hk : k ≤ n) (hf : ¬ k + 2 ≤ n) :
  Calls Tryz.prog 84 #[.slice A n c, .int .i64 (k : Int)] w (BytesNo w) := by
 have HU := Lib.hid (uint_no A n c (k : Int) 2 w (by omega) (by omega) (by omega) (by unfold flw; simp only [decide_eq_false_iff_not]; omega))
 go_enter Tryz.func84, Tryz.ntmps84
 go_wp2_with fail
 refine HU.out.mono ?_
 rintro e w1 ⟨rfl, rfl⟩
 go_wp2_with fail
 go_ret3
 exact ⟨rfl, rfl⟩
theorem codBytes_no2 (A : Option Addr) (n c : Nat) (l : List UInt8) (k : Nat) (w : World) (h : SlB w A n c l) (hn : n ≤ 140737488355328) (hf : k + 2 ≤ n) (hg : ¬ k + 2 + numAt l k 2 ≤ n) :
  Calls Tryz.prog 84 #[.slice A n c, .int .i64 (k : Int)] w (BytesNo w) := by
 have HU := Lib.hid (uint_yes A n c l k 2 w h (by omega) (by omega) hf)
 have hv := numAt_small l k 2 (by omega)
 obtain ⟨v, hve⟩ : ∃ v, numAt l k 2 = v := ⟨_, rfl⟩
 obtain ⟨K, hK⟩ : ∃ K, k + 2 = K := ⟨_, rfl⟩
 rw [hve] at HU hg hv
 have hKi : (k : Int) + 2 = (K : Int) := by omega
 have HF := Lib.hid (codFollow_any A n c (K : Int) (v : Int) w (by omega))
 rw [show flw n (K : Int) (v : Int) = false from by unfold flw; simp only [decide_eq_false_iff_not]; omega] at HF
 have hvw : IntKind.i64.wrap (v : Int) = (v : Int) := by rw [IntKind.wrap_i64]; omega
 clear hve h hg hK
 go_enter Tryz.func84, Tryz.ntmps84
 go_wp2_with fail
 refine HU.out.mono ?_
 rintro e w1 ⟨rfl, rfl⟩
 go_wp2_with (go_at_call 101; (with_reducible refine HF.out.mono ?_); rintro e w2 ⟨rfl, rfl⟩)
 go_ret3
 exact ⟨rfl, rfl⟩
def BytesYes (w : World) (v j : Nat) (p : List UInt8) (e : Ending) (w' : World) : Prop := ∃ A' c', e = .returned (.tuple #[.slice A' v c', .int .i64 (j : Int), .bool true]) ∧ OwnB w' w.heap.size 5 A' v c' p ∧ Ext w w'
theorem codBytes_yes (A : Option Addr) (n c : Nat) (l : List UInt8) (k : Nat) (w : World) (h : SlB w A n c l) (hn : n ≤ 140737488355328) (hf : k + 2 ≤ n) (hg : k + 2 + numAt l k 2 ≤ n) :
  Calls Tryz.prog 84 #[.slice A n c, .int .i64 (k : Int)] w (BytesYes w (numAt l k 2) (k + 2 + numAt l k 2) ((l.drop (k + 2)).take (numAt l k 2))) := by
 have HU := Lib.hid (uint_yes A n c l k 2 w h (by omega) (by omega) hf)
 have hle := h.le
 have hcap := h.cap
 have hlen := h.len
 obtain ⟨v, hve⟩ : ∃ v, numAt l k 2 = v := ⟨_, rfl⟩
 obtain ⟨K, hK⟩ : ∃ K, k + 2 = K := ⟨_, rfl⟩
 rw [hve] at HU hg ⊢
 rw [hK] at hg ⊢
 obtain ⟨E, hE⟩ : ∃ E, K + v = E := ⟨_, rfl⟩
 rw [hE] at hg ⊢
 have hKi : (k : Int) + 2 = (K : Int) := by omega
 have hEi : (K : Int) + (v : Int) = (E : Int) := by omega
 have hvb : 0 + v ≤ 140737488355328 := by omega
 have hKE : (K : Int) ≤ (E : Int) := by omega
 have hEc : (E : Int) ≤ (c : Int) := by omega
 have hEK : (E : Int) - (K : Int) = (v : Int) := by omega
 have hEKn : E - K = v := by omega
 have HF := Lib.hid (codFollow_any A n c (K : Int) (v : Int) w (by omega))
 rw [show flw n (K : Int) (v : Int) = true from by unfold flw; simp only [decide_eq_true_eq]; omega] at HF
 have hvw : IntKind.i64.wrap (v : Int) = (v : Int) := by rw [IntKind.wrap_i64]; omega
 obtain ⟨b, o, rfl, hra, hbl⟩ := h.at (by omega)
 by_cases hc : c = K
 ·have hv0 : v = 0 := by omega
  subst hv0
  have hn0 : OwnB w w.heap.size 5 none 0 0 [] := OwnB.nil w _ _
  subst hc
  obtain rfl : E = c := by omega
  clear hve h hg hK hE hra hlen hEi hEK hEKn hKE hEc
  rw [show ((0 : Nat) : Int) = 0 from rfl] at HU HF
  clear hvw
  go_enter Tryz.func84, Tryz.ntmps84
  go_wp2_with fail
  refine HU.out.mono ?_
  rintro e w1 ⟨rfl, rfl⟩
  go_wp2_with (first | (go_at_call 101; (with_reducible refine HF.out.mono ?_); rintro e w2 ⟨rfl, rfl⟩) | (at_builtin; go_must (refine wpList_appB bytesE rfl (.const (.slice none 0 0)) (.tmp 36) rfl w.heap.size none 0 0 [] rfl hn0 _ 0 0 [] rfl (SlB.empty w _ 0 (by omega)) (by omega) (Nat.le_refl _) w (Ext.refl w) ?_)))
  intro A2 c2 w2 hO2 hE2 hs2
  have HO2 := Lib.hid hO2
  clear hO2
  go_wp2_with fail
  go_ret3
  exact ⟨A2, c2, by simp, by simpa using HO2.out, hE2⟩
 ·have hn0 : OwnB w w.heap.size 5 none 0 0 [] := OwnB.nil w _ _
  have hs0 := (h.cut (k := K) (by omega) (by omega)).upto (k := v) (by omega)
  simp only [Option.map_some, Addr.add_mid] at hs0
  have HS := Lib.hid hs0
  clear hve h hg hK hE hra hlen hs0
  go_enter Tryz.func84, Tryz.ntmps84
  go_wp2_with fail
  refine HU.out.mono ?_
  rintro e w1 ⟨rfl, rfl⟩
  go_wp2_with (first | (go_at_call 101; (with_reducible refine HF.out.mono ?_); rintro e w2 ⟨rfl, rfl⟩) | (at_builtin; go_must (refine wpList_appB bytesE rfl (.const (.slice none 0 0)) (.tmp 36) rfl w.heap.size none 0 0 [] rfl hn0 (some ⟨b, o + K, none⟩) v (c - K) ((l.drop K).take v) rfl HS.out hvb (Nat.le_refl _) w (Ext.refl w) ?_)))
  intro A2 c2 w2 hO2 hE2 hs2
  have HO2 := Lib.hid hO2
  clear hO2
  go_wp2_with fail
  go_ret3
  exact ⟨A2, c2, by simp, by simpa using HO2.out, hE2⟩
theorem cur_bad {t : TypeId} {D : Nat} {w w4 : World} {B n c k : Nat} {A : Option Addr} {l : List UInt8} {b : Bool} (hB : Blk w B t #[.slice A n c, .int .i64 ((k : Nat) : Int), .bool b]) (hS : SlB w A n c l) (he : Ext w w4) (hk : k ≤ n) (hn : n ≤ 140737488355328) (hD : LowB D A n) : CurAt t D (w4.setCell ⟨B, 2, none⟩ (.bool true)) B none ∧ w.grownBy (w4.setCell ⟨B, 2, none⟩ (.bool true)) (some B) := by
 have hg : w.grownBy (w4.setCell ⟨B, 2, none⟩ (.bool true)) (some B) := World.grownBy.trans (grown_ext he _) (grown_set w4 B 2 _)
 exact ⟨cur_close hB hS hg _ ((hB.ext he).set 2 (.bool true)) rfl hk hn (fun r h => by cases h) hD, hg⟩
theorem cur_good {t : TypeId} {D : Nat} {w w4 : World} {B n c k j : Nat} {A : Option Addr} {l : List UInt8} (hB : Blk w B t #[.slice A n c, .int .i64 ((k : Nat) : Int), .bool false]) (hS : SlB w A n c l) (he : Ext w w4) (hj : j ≤ n) (hn : n ≤ 140737488355328) (hD : LowB D A n) : CurAt t D (w4.setCell ⟨B, 1, none⟩ (.int .i64 (j : Int))) B (some (l.drop j)) ∧ w.grownBy (w4.setCell ⟨B, 1, none⟩ (.int .i64 (j : Int))) (some B) := by
 have hg : w.grownBy (w4.setCell ⟨B, 1, none⟩ (.int .i64 (j : Int))) (some B) := World.grownBy.trans (grown_ext he _) (grown_set w4 B 1 _)
 exact ⟨cur_close hB hS hg _ ((hB.ext he).set 1 (.int .i64 (j : Int))) rfl hj hn (fun r h => by injection h with h; exact h.symm) hD, hg⟩
theorem blobOk_at {l : List UInt8} {n k : Nat} (hlen : l.length = n) (hk : k ≤ n) : blobOk (l.drop k) = decide (k + 2 ≤ n ∧ k + 2 + numAt l k 2 ≤ n) := by
 unfold blobOk numAt
 rw [List.length_drop, hlen]
 congr 1
 apply propext
 constructor
 ·rintro ⟨h1, h2⟩; constructor <;> omega
 ·rintro ⟨h1, h2⟩; constructor <;> omega
def BlobOut (D : Nat) (B : Nat) (w : World) (s : Option (List UInt8)) (e : Ending) (w' : World) : Prop :=
 ∃ A' n' c', e = .returned (.slice A' n' c') ∧ OwnB w' w.heap.size 5 A' n' c' (rBlob s) ∧ CurAt 101 D w' B (rAft s) ∧ w.grownBy w' (some B)
theorem cblob_any (D B : Nat) (s : Option (List UInt8)) (w : World) (h : CurAt 101 D w B s) :
  Calls Tryz.prog 52 #[.pointer (some ⟨B, 0, none⟩)] w (BlobOut D B w s) := by
 obtain ⟨A, n, c, l, k, hB, hS, hk, hn, hr, hD⟩ := h
 have hlen := hS.len
 have hc0 : w.cell? ⟨B, 0, none⟩ = some (.slice A n c) := hB.cell 0
 have hc1 : w.cell? ⟨B, 1, none⟩ = some (.int .i64 (k : Int)) := hB.cell 1
 have hc2 : w.cell? ⟨B, 2, none⟩ = some (.bool s.isNone) := hB.cell 2
 have HQ := Lib.hid (fun (W : World) (h : Ext w W) => show W.cell? ⟨B, 0, none⟩ = some (.slice A n c) ∧ W.cell? ⟨B, 1, none⟩ = some (.int .i64 (k : Int)) from ⟨(hB.ext h).cell 0, (hB.ext h).cell 1⟩)
 have HQ2 := Lib.hid (fun (W : World) (h : Ext w W) => show W.cell? ⟨B, 2, none⟩ = some (.bool s.isNone) ∧ W.frozen? ⟨B, 1, none⟩ = false ∧ W.frozen? ⟨B, 2, none⟩ = false from ⟨(hB.ext h).cell 2, (hB.ext h).frozen 1, (hB.ext h).frozen 2⟩)
 have HB := Lib.hid hB
 have HS := Lib.hid hS
 have HR := Lib.hid hr
 have hS' := hS.ext (Ext.refl w).drew'
 have hXd := (Ext.refl w).drew'
 have HOKA := Lib.hid (blobOk_at hlen hk)
 clear hB hS hr hlen
 by_cases hok : k + 2 ≤ n ∧ k + 2 + numAt l k 2 ≤ n
 ·have HU := Lib.hid (codBytes_yes A n c l k _ hS' hn hok.1 hok.2)
  obtain ⟨v, hv⟩ : ∃ v, numAt l k 2 = v := ⟨_, rfl⟩
  have HV := Lib.hid (show beNat ((l.drop k).take 2) = v from hv)
  have HOK := Lib.hid (show blobOk (l.drop k) = true by rw [HOKA.out]; exact decide_eq_true hok)
  rw [hv] at HU hok
  obtain ⟨j, hj⟩ : ∃ j, k + 2 + v = j := ⟨_, rfl⟩
  rw [hj] at HU hok
  have HJ := Lib.hid hj
  have HJN := Lib.hid hok.2
  clear hv hj hok hS'
  cases s with
  | none =>
   clear HR
   go_enter Tryz.func52, Tryz.ntmps52
   go_wp2_with fail
   go_region_held3 (fun w' => w'.cell? ⟨B, 0, none⟩ = some (.slice A n c) ∧ w'.cell? ⟨B, 1, none⟩ = some (.int .i64 (k : Int))) (first | (with_reducible exact HQ.out _ hXd) | (with_reducible exact HQ.out _ hX4) | fail "CELLS") (first | (go_at_call 84; (with_reducible refine HU.out.mono ?_); rintro e w4 ⟨A4, c4, rfl, hO4, he4⟩; have hX4 := hXd.trans he4) | fail "ARM")
   clear hc0 hc1 hc2
   obtain ⟨hc2, hf1, hf2⟩ := HQ2.out _ hX4
   have hc2 : w4.cell? ⟨B, 2, none⟩ = some (.bool true) := hc2
   have HF := Lib.hid (cur_bad HB.out HS.out hX4 hk hn hD)
   clear hXd hX4 he4 hO4
   go_wp2_with fail
   go_ret
   exact ⟨none, 0, 0, rfl, OwnB.nil _ _ _, HF.out.1, HF.out.2⟩
  | some r =>
   have HRr := Lib.hid (show r = l.drop k from HR.out r rfl)
   clear HR
   go_enter Tryz.func52, Tryz.ntmps52
   go_wp2_with fail
   go_region_held3 (fun w' => w'.cell? ⟨B, 0, none⟩ = some (.slice A n c) ∧ w'.cell? ⟨B, 1, none⟩ = some (.int .i64 (k : Int))) (first | (with_reducible exact HQ.out _ hXd) | (with_reducible exact HQ.out _ hX4) | fail "CELLS") (first | (go_at_call 84; (with_reducible refine HU.out.mono ?_); rintro e w4 ⟨A4, c4, rfl, hO4, he4⟩; have hX4 := hXd.trans he4) | fail "ARM")
   clear hc0 hc1 hc2
   obtain ⟨hc2, hf1, hf2⟩ := HQ2.out _ hX4
   have hc2 : w4.cell? ⟨B, 2, none⟩ = some (.bool false) := hc2
   have HF := Lib.hid (cur_good HB.out HS.out hX4 HJN.out hn hD)
   have HX4 := Lib.hid hX4
   have HO4 := Lib.hid hO4
   clear hXd hX4 he4 hO4
   go_wp2_with fail
   go_ret
   refine ⟨A4, v, c4, rfl, ?_, ?_, HF.out.2⟩
   ·refine World.ownsRow.kept ?_ (grown_set w4 B 1 _) (.inr (Ne.symm (own_other HO4.out (HB.out.ext HX4.out) (by decide))))
    have := HO4.out
    rw [HRr.out]
    show OwnB w4 w.heap.size _ A4 v c4 (if blobOk (l.drop k) then ((l.drop k).drop 2).take (beNat ((l.drop k).take 2)) else [])
    rw [HOK.out, if_pos rfl, HV.out, List.drop_drop]; exact this
   ·rw [HRr.out]
    show CurAt _ _ _ _ (if blobOk (l.drop k) then some ((l.drop k).drop (2 + beNat ((l.drop k).take 2))) else none)
    rw [HOK.out, if_pos rfl, HV.out, List.drop_drop, show k + (2 + v) = j by rw [← HJ.out]; omega]
    exact HF.out.1
 ·have HU := Lib.hid (show Calls Tryz.prog 84 #[.slice A n c, .int .i64 (k : Int)] w.drew (BytesNo w.drew) from by
   by_cases h1 : k + 2 ≤ n
   ·exact codBytes_no2 A n c l k _ hS' hn h1 (fun h2 => hok ⟨h1, h2⟩)
   ·exact codBytes_no1 A n c k _ hn hk h1)
  have HOK := Lib.hid (show blobOk (l.drop k) = false by rw [HOKA.out]; exact decide_eq_false hok)
  clear hok hS'
  have HN := Lib.hid (show rBlob s = [] ∧ rAft s = none from by
   cases s with
   | none => exact ⟨rfl, rfl⟩
   | some r =>
    rw [HR.out r rfl]
    constructor
    ·show (if blobOk (l.drop k) then _ else _) = _
     rw [HOK.out]; rfl
    ·show (if blobOk (l.drop k) then _ else _) = _
     rw [HOK.out]; rfl)
  have HF := Lib.hid (cur_bad HB.out HS.out hXd hk hn hD)
  cases s with
  | none =>
   have hc2 : w.cell? ⟨B, 2, none⟩ = some (.bool true) := hc2
   obtain ⟨_, hf1, hf2⟩ := HQ2.out _ hXd
   clear HR
   go_enter Tryz.func52, Tryz.ntmps52
   go_wp2_with fail
   go_region_held3 (fun w' => w'.cell? ⟨B, 0, none⟩ = some (.slice A n c) ∧ w'.cell? ⟨B, 1, none⟩ = some (.int .i64 (k : Int))) (first | (with_reducible exact HQ.out _ hXd) | fail "CELLS") (first | (go_at_call 84; (with_reducible refine HU.out.mono ?_); rintro e w4 ⟨rfl, rfl⟩) | fail "ARM")
   clear hc0 hc1
   go_wp2_with fail
   go_ret
   exact ⟨none, 0, 0, rfl, by rw [HN.out.1]; exact OwnB.nil _ _ _, by rw [HN.out.2]; exact HF.out.1, HF.out.2⟩
  | some r =>
   have hc2 : w.cell? ⟨B, 2, none⟩ = some (.bool false) := hc2
   obtain ⟨_, hf1, hf2⟩ := HQ2.out _ hXd
   clear HR
   go_enter Tryz.func52, Tryz.ntmps52
   go_wp2_with fail
   go_region_held3 (fun w' => w'.cell? ⟨B, 0, none⟩ = some (.slice A n c) ∧ w'.cell? ⟨B, 1, none⟩ = some (.int .i64 (k : Int))) (first | (with_reducible exact HQ.out _ hXd) | fail "CELLS") (first | (go_at_call 84; (with_reducible refine HU.out.mono ?_); rintro e w4 ⟨rfl, rfl⟩) | fail "ARM")
   clear hc0 hc1
   go_wp2_with fail
   go_ret
   exact ⟨none, 0, 0, rfl, by rw [HN.out.1]; exact OwnB.nil _ _ _, by rw [HN.out.2]; exact HF.out.1, HF.out.2⟩
theorem cok_any (D B : Nat) (s : Option (List UInt8)) (w : World) (h : CurAt 101 D w B s) :
  Calls Tryz.prog 49 #[.pointer (some ⟨B, 0, none⟩)] w fun e w' => e = .returned (.bool s.isSome) ∧ w = w' := by
 obtain ⟨A, n, c, l, k, hB, hS, hk, hn, hr, hD⟩ := h
 have hc2 : w.cell? ⟨B, 2, none⟩ = some (.bool s.isNone) := hB.cell 2
 clear hB hS hr
 cases s with
 | none =>
  have hc2 : w.cell? ⟨B, 2, none⟩ = some (.bool true) := hc2
  go_enter Tryz.func49, Tryz.ntmps49
  go_wp2_with fail
  go_ret
  exact ⟨rfl, rfl⟩
 | some r =>
  have hc2 : w.cell? ⟨B, 2, none⟩ = some (.bool false) := hc2
  go_enter Tryz.func49, Tryz.ntmps49
  go_wp2_with fail
  go_ret
  exact ⟨rfl, rfl⟩
end Go.Proofs.YtbfepgjeecndiaaGreat
