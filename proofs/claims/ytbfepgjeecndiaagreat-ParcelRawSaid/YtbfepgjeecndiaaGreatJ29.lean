/- The bytes of a parcel (parcel.Encode). -/
import Derived.Lib.AppendZerosOnto
import Derived.Lib.SliceRun
import Derived.Sort.WalkA
import Derived.Test.YtbfepgjeecndiaaGreatJ19
import Derived.Test.YtbfepgjeecndiaaGreatJ23
import Derived.Test.YtbfepgjeecndiaaGreatJ24
namespace Go.Proofs.YtbfepgjeecndiaaGreat
set_option maxRecDepth 100000
set_option maxHeartbeats 8000000
open Go.RowKit
set_option linter.unusedVariables false
set_option linter.unusedSimpArgs false
attribute [local go_sem ↓] Go.wp_at_zero Go.wp_at_succ
def lrgN (n m : Nat) : Bool := decide (64 < n) || decide (64 < m)
theorem parLarge_any (A : Option Addr) (n c : Nat) (B : Option Addr) (m d : Nat) (w : World) (hn : n ≤ 9223372036854775807) (hm : m ≤ 9223372036854775807) :
  Calls Tryz.prog 20 #[.agg (vwA A n c B m d)] w fun e w' => e = .returned (.bool (lrgN n m)) ∧ Ext w w' := by
 have HE := Lib.hid ((Ext.refl w).alloc' (.cells (vwA A n c B m d) 25))
 obtain ⟨c0, c1⟩ := vw_facts (Blk.new w 25 (vwA A n c B m d))
 by_cases h1 : 64 < n
 ·have HV := Lib.hid (show lrgN n m = true by unfold lrgN; rw [decide_eq_true h1]; rfl)
  have i1 : (64 : Int) < (n : Int) := by omega
  go_enter Tryz.func20, Tryz.ntmps20
  go_wp2_with fail
  go_ret
  exact ⟨by rw [HV.out]; rfl, HE.out⟩
 ·have i1 : ¬ (64 : Int) < (n : Int) := by omega
  by_cases h2 : 64 < m
  ·have HV := Lib.hid (show lrgN n m = true by unfold lrgN; rw [decide_eq_true h2, Bool.or_true])
   have i2 : (64 : Int) < (m : Int) := by omega
   go_enter Tryz.func20, Tryz.ntmps20
   go_wp2_with fail
   go_ret
   exact ⟨by rw [HV.out]; rfl, HE.out⟩
  ·have HV := Lib.hid (show lrgN n m = false by unfold lrgN; rw [decide_eq_false h1, decide_eq_false h2]; rfl)
   have i2 : ¬ (64 : Int) < (m : Int) := by omega
   go_enter Tryz.func20, Tryz.ntmps20
   go_wp2_with fail
   go_ret
   exact ⟨by rw [HV.out]; rfl, HE.out⟩
def pcE (L : List SgR) (X : List TeR) : Int := if lrgN L.length X.length = true then 5 else vwE L X
def encPc (L : List SgR) (X : List TeR) : List UInt8 := nmb (tagU 89 (encVw L X)) ++ encVw L X
def PcEnc (w : World) (L : List SgR) (X : List TeR) (e : Ending) (w' : World) : Prop :=
 ((pcE L X ≠ 0 ∧ e = .returned (.tuple #[.slice none 0 0, .int .i64 (pcE L X)])) ∨ (pcE L X = 0 ∧ ∃ A' n' c', e = .returned (.tuple #[.slice A' n' c', .int .i64 0]) ∧ OwnB w' w.heap.size 5 A' n' c' (encPc L X) ∧ n' ≤ 10000000)) ∧ Ext w w'
theorem encVw_pos (L : List SgR) (X : List TeR) : 8 ≤ (encVw L X).length := by
 unfold encVw; simp only [List.length_append, beI_length]; omega
theorem tagged89 (A : Option Addr) (n c : Nat) (l : List UInt8) (w : World) (h : SlB w A n c l) (hm : n < 140737488355328) :
  Calls Tryz.prog 22 #[.int .u8 89, .slice A n c] w fun e w' => e = .returned (.agg (nmc (tagU 89 l))) ∧ Ext w w' := tagged_any 89 A n c l w h hm
theorem pcEnc_any (A : Option Addr) (n c : Nat) (L : List SgR) (B : Option Addr) (m d : Nat) (X : List TeR) (w : World) (hS : SlG w A n c L) (hX : SlG w B m d X) :
  Calls Tryz.prog 9 #[.agg (vwA A n c B m d)] w (PcEnc w L X) := by
 have hcap := hS.cap
 have hle := hS.le
 have hcap2 := hX.cap
 have hle2 := hX.le
 have hE := (Ext.refl w).alloc' (.cells (vwA A n c B m d) 25)
 have HB := Lib.hid (Blk.new w 25 (vwA A n c B m d))
 have HE := Lib.hid hE
 have HS := Lib.hid (hS.ext hE)
 have HX := Lib.hid (hX.ext hE)
 have HL := Lib.hid hS.len
 have HM := Lib.hid hX.len
 obtain ⟨W0, hW0⟩ : ∃ W0, w.alloc (.cells (vwA A n c B m d) 25) = W0 := ⟨_, rfl⟩
 rw [hW0] at HB HE HS HX
 have HC := Lib.hid (fun (W : World) (h : Ext W0 W) => vw_facts (HB.out.ext h))
 clear hS hX hE
 obtain ⟨c0, c1⟩ := HC.out W0 (Ext.refl _)
 go_enter Tryz.func9, Tryz.ntmps9
 go_wp2_with fail
 refine (parLarge_any A n c B m d W0 (by omega) (by omega)).mono ?_
 rintro e w1 ⟨rfl, he1⟩
 have HX1 := Lib.hid he1
 clear he1 c0 c1
 cases hv : lrgN n m with
 | true =>
  have HN := Lib.hid (show pcE L X = 5 by unfold pcE; rw [HL.out, HM.out, hv]; rfl)
  have HF := Lib.hid (HE.out.trans HX1.out)
  clear hv
  go_wp2_with fail
  go_ret2
  exact ⟨.inl ⟨by rw [HN.out]; decide, by rw [HN.out]; rfl⟩, HF.out⟩
 | false =>
  have HN := Lib.hid (show pcE L X = vwE L X by unfold pcE; rw [HL.out, HM.out, hv]; rfl)
  have hbd : n ≤ 64 ∧ m ≤ 64 := by
   unfold lrgN at hv
   simp only [Bool.or_eq_false_iff, decide_eq_false_iff_not] at hv
   omega
  obtain ⟨b1, b2⟩ := hbd
  obtain ⟨c0, c1⟩ := HC.out w1 HX1.out
  clear hv
  go_wp2_with fail
  refine (snEnc_any A n c L B m d X w1 (HS.out.ext HX1.out) (HX.out.ext HX1.out) (by omega) (by omega)).mono ?_
  intro e w2 h2
  obtain ⟨hcase, he2⟩ := h2
  have HX2 := Lib.hid (HE.out.trans (HX1.out.trans he2))
  have HXZ := Lib.hid he2.size
  clear he2 c0 c1
  rcases hcase with ⟨hne, rfl⟩ | ⟨h0, A2, n2, c2, rfl, hO2, hn2⟩
  ·obtain ⟨z, hz⟩ : ∃ z, vwE L X = z := ⟨_, rfl⟩
   rw [hz] at hne HN ⊢
   have z1 : (z != 0) = true := bne_iff_ne.2 hne
   have HNE := Lib.hid hne
   clear hne hz
   go_wp2_with fail
   go_ret2
   exact ⟨.inl ⟨by rw [HN.out]; exact HNE.out, by rw [HN.out]; rfl⟩, HX2.out⟩
  ·rw [h0] at HN
   rw [HL.out, HM.out] at hn2
   have HO2 := Lib.hid hO2
   have HLE := Lib.hid (show (encVw L X).length = n2 from hO2.len)
   have HPO := Lib.hid (encVw_pos L X)
   clear h0 hO2
   go_wp2_with fail
   refine (tagged89 A2 n2 c2 (encVw L X) w2 HO2.out.sl (by omega)).mono ?_
   rintro e w3 ⟨rfl, he3⟩
   have HX3 := Lib.hid (HX2.out.trans he3)
   have HO3 := Lib.hid (HO2.out.ext he3)
   obtain ⟨N, hN⟩ : ∃ N, tagU 89 (encVw L X) = N := ⟨_, rfl⟩
   have HNN := Lib.hid hN
   rw [hN]
   clear he3 hN
   have hp : 8 ≤ n2 := by have := HPO.out; have := HLE.out; omega
   have HZ := Lib.hid hp
   have HBN := Lib.hid (slB_at (n := 8) (c := 8) (rangeNm (Blk.new w3 44 (nmc N))) (nmb_length _) (by omega) (by omega))
   have HO4 := Lib.hid (HO3.out.sl.ext ((Ext.refl w3).alloc' (.cells (nmc N) 44)))
   have HX4 := Lib.hid (HX3.out.alloc' (.cells (nmc N) 44))
   go_wp2_with (first | (with_reducible refine wpList_storeNew rfl (.tmp 6) (.tmp 18) rfl w3.heap.size N rfl rfl rfl ?_) | (at_builtin; go_must (refine wpList_growB bytesE rfl (.tmp 19) (.tmp 20) rfl _ 8 8 (nmb N) rfl HBN.out (by omega) A2 n2 c2 (encVw L X) rfl HO4.out (by omega) (by omega) (by omega) ?_; intro A5 c5 w5 hO5 hx5)))
   have HX5 := Lib.hid (Ext.trans HX4.out hx5)
   have HF := Lib.hid (show OwnB w5 w.heap.size 5 A5 (8 + n2) c5 (encPc L X) from by
    unfold encPc; rw [HNN.out]; exact own_mono hO5 HX4.out.size)
   clear hO5 hx5
   go_wp2_with fail
   go_ret2
   exact ⟨.inr ⟨HN.out, A5, 8 + n2, c5, rfl, HF.out, by omega⟩, HX5.out⟩
end Go.Proofs.YtbfepgjeecndiaaGreat

/- The reference's order of signed votes. -/
namespace Go.Proofs.YtbfepgjeecndiaaGreat
set_option maxRecDepth 100000
set_option maxHeartbeats 8000000
open Go.RowKit
set_option linter.unusedVariables false
set_option linter.unusedSimpArgs false
attribute [local go_sem ↓] Go.wp_at_zero Go.wp_at_succ
theorem strV_lt (p q : List UInt8) : Op.bytesLess (strV p).toList (strV q).toList = lexB p q := by
 rw [bytesLess_lex, ByteArray.toList_eq, ByteArray.toList_eq]; rfl
theorem rSgLess_any (S T : SgR) (w : World) (hS : S.ok w) (hT : T.ok w) : Calls Tryz.prog 45 #[.agg (sgA S), .agg (sgA T)] w fun e w' => e = .returned (.bool (ltSg S T)) ∧ Ext w w' := by
 have hE := ((Ext.refl w).alloc' (.cells (sgA S) 48)).alloc' (.cells (sgA T) 48)
 have HB1 := Lib.hid ((Blk.new w 48 (sgA S)).alloc (.cells (sgA T) 48))
 have HB2 := Lib.hid (show Blk ((w.alloc (.cells (sgA S) 48)).alloc (.cells (sgA T) 48)) (w.heap.size + 1) 48 (sgA T) from Blk.newAt _ _ _ _ (by simp))
 have HE := Lib.hid hE
 have HS := Lib.hid (hS.ext hE)
 have HT := Lib.hid (hT.ext hE)
 obtain ⟨W0, hW0⟩ : ∃ W0, (w.alloc (.cells (sgA S) 48)).alloc (.cells (sgA T) 48) = W0 := ⟨_, rfl⟩
 rw [hW0] at HB1 HB2 HE HS HT
 have r1 := sg_vote HB1.out
 have r2 := sg_vote HB2.out
 have hq : ∀ W, (binOp .neq 46 (.agg (vtA S.v)) (.agg (vtA T.v))).run Tryz.prog W = .ok (.bool (!decide (S.v = T.v))) W := fun W => by
  rw [run_neq_struct, eqIn_Vt S.v T.v HS.out.v HT.out.v W]; rfl
 have hqi := fun W => eqIn_Vt S.v T.v HS.out.v HT.out.v W
 have HL := Lib.hid (fun (W : World) => rVtLess_any S.v T.v W)
 clear hE hS hT
 by_cases hv : S.v = T.v
 ·have HV := Lib.hid (show ltSg S T = Op.bytesLess (strV S.sig).toList (strV T.sig).toList from by rw [strV_lt]; unfold ltSg ltSv SgR.V; rw [if_pos hv])
  have s1 := run_strV HS.out.sig
  have s2 := run_strV HT.out.sig
  rw [decide_eq_true hv] at hq hqi
  rw [Bool.not_true] at hq
  have c1 : W0.cell? ⟨w.heap.size, 22, none⟩ = some (.slice S.A S.n S.c) := HB1.out.cell 22
  have c2 : W0.cell? ⟨w.heap.size + 1, 22, none⟩ = some (.slice T.A T.n T.c) := HB2.out.cell 22
  clear hv
  go_enter Tryz.func45, Tryz.ntmps45
  go_wp2_with (first | (with_reducible refine wpList_loadVt rfl (.tmp 5) rfl w.heap.size 0 rfl S.v r1 ?_) | (with_reducible refine wpList_loadVt rfl (.tmp 7) rfl (w.heap.size + 1) 0 rfl T.v r2 ?_))
  go_ret
  exact ⟨by rw [HV.out]; rfl, HE.out⟩
 ·have HV := Lib.hid (ltSg_v hv)
  rw [decide_eq_false hv] at hq hqi
  rw [Bool.not_false] at hq
  clear hv
  go_enter Tryz.func45, Tryz.ntmps45
  go_wp2_with (first | (with_reducible refine wpList_loadVt rfl (.tmp 5) rfl w.heap.size 0 rfl S.v r1 ?_) | (with_reducible refine wpList_loadVt rfl (.tmp 7) rfl (w.heap.size + 1) 0 rfl T.v r2 ?_) | (with_reducible refine wpList_loadVt rfl (.tmp 10) rfl w.heap.size 0 rfl S.v r1 ?_) | (with_reducible refine wpList_loadVt rfl (.tmp 12) rfl (w.heap.size + 1) 0 rfl T.v r2 ?_))
  refine (HL.out W0).mono ?_
  rintro e w1 ⟨rfl, he1⟩
  have HX1 := Lib.hid (HE.out.trans he1)
  clear he1
  go_wp2_with fail
  go_ret
  exact ⟨by rw [HV.out]; rfl, HX1.out⟩
end Go.Proofs.YtbfepgjeecndiaaGreat

/- A part of a row (parcel.part). -/
namespace Go.Proofs.YtbfepgjeecndiaaGreat
set_option maxRecDepth 100000
set_option maxHeartbeats 4000000
open Go.RowKit
set_option linter.unusedVariables false
set_option linter.unusedSimpArgs false
attribute [local go_sem ↓] Go.wp_at_zero Go.wp_at_succ
theorem SlG.part {α : Type} [RowT α] {w : World} {A : Option Addr} {n c i t : Nat} {L : List α} (h : SlG w A n c L) (hi : i * 64 < n) (ht : t = min (i * 64 + 64) n) : SlG w (A.map (·.add (i * 64 * RowT.sz α))) (t - i * 64) (t - i * 64) ((L.drop (i * 64)).take 64) := by
 have hle := h.le
 have hcap := h.cap
 have h2 := (h.cut (k := i * 64) (by omega) (by omega)).upto (k := t - i * 64) (c' := t - i * 64) (by omega) (Nat.le_refl _) (by omega)
 have hl : (L.drop (i * 64)).length = n - i * 64 := by rw [List.length_drop, h.len]
 have e : (L.drop (i * 64)).take (t - i * 64) = (L.drop (i * 64)).take 64 := by
  by_cases h3 : i * 64 + 64 ≤ n
  ·rw [show t - i * 64 = 64 from by omega]
  ·rw [List.take_of_length_le (by omega), List.take_of_length_le (by omega)]
 rwa [e] at h2
theorem partSg_any (A : Option Addr) (n c : Nat) (L : List SgR) (i : Nat) (w0 w : World) (h : SlG w0 A n c L) (hi : i ≤ 1000000000) (hn : n ≤ 1000000000) :
  Calls Tryz.prog 30 #[.slice A n c, .int .i64 (i : Int)] w fun e w' => ∃ A' n', e = .returned (.slice A' n' n') ∧ n' ≤ n ∧ SlG w0 A' n' n' ((L.drop (i * 64)).take 64) ∧ w = w' := by
 have hcap := h.cap
 have hle := h.le
 have H := Lib.hid h
 clear h
 have wz : IntKind.i64.wrap ((i : Int) * 64) = (i : Int) * 64 := by rw [IntKind.wrap_i64]; omega
 by_cases h1 : i * 64 < n
 ·have j1 : (i : Int) * 64 < (n : Int) := by omega
  go_enter Tryz.func30, Tryz.ntmps30
  go_wp2_with fail
  go_ret
  have hf : (min ((i : Int) * 64) (n : Int)).toNat = i * 64 := by omega
  obtain ⟨t, ht⟩ : ∃ t, t = min (i * 64 + 64) n := ⟨_, rfl⟩
  have ht2 : (min (min ((i : Int) * 64) (n : Int) + 64) (n : Int)).toNat = t := by omega
  refine ⟨_, _, rfl, by omega, ?_, rfl⟩
  rw [hf, ht2]
  exact H.out.part h1 ht
 ·have j1 : ¬ (i : Int) * 64 < (n : Int) := by omega
  have j2 : min ((i : Int) * 64) (n : Int) = (n : Int) := by omega
  have j3 : min ((n : Int) + 64) (n : Int) = (n : Int) := by omega
  go_enter Tryz.func30, Tryz.ntmps30
  go_wp2_with fail
  go_ret
  refine ⟨_, _, rfl, by omega, ?_, rfl⟩
  rw [List.drop_of_length_le (by rw [H.out.len]; omega), List.take_nil]
  first | exact SlG.empty _ _ _ (by omega) | (simp; exact SlG.empty _ _ _ (by omega))
theorem partTe_any (A : Option Addr) (n c : Nat) (L : List TeR) (i : Nat) (w0 w : World) (h : SlG w0 A n c L) (hi : i ≤ 1000000000) (hn : n ≤ 1000000000) :
  Calls Tryz.prog 31 #[.slice A n c, .int .i64 (i : Int)] w fun e w' => ∃ A' n', e = .returned (.slice A' n' n') ∧ n' ≤ n ∧ SlG w0 A' n' n' ((L.drop (i * 64)).take 64) ∧ w = w' := by
 have hcap := h.cap
 have hle := h.le
 have H := Lib.hid h
 clear h
 have wz : IntKind.i64.wrap ((i : Int) * 64) = (i : Int) * 64 := by rw [IntKind.wrap_i64]; omega
 by_cases h1 : i * 64 < n
 ·have j1 : (i : Int) * 64 < (n : Int) := by omega
  go_enter Tryz.func31, Tryz.ntmps31
  go_wp2_with fail
  go_ret
  have hf : (min ((i : Int) * 64) (n : Int)).toNat = i * 64 := by omega
  obtain ⟨t, ht⟩ : ∃ t, t = min (i * 64 + 64) n := ⟨_, rfl⟩
  have ht2 : (min (min ((i : Int) * 64) (n : Int) + 64) (n : Int)).toNat = t := by omega
  refine ⟨_, _, rfl, by omega, ?_, rfl⟩
  rw [hf, ht2]
  exact show SlG w0 (A.map (·.add (i * 64))) _ _ _ from by have := H.out.part h1 ht; rwa [show RowT.sz TeR = 1 from rfl, Nat.mul_one] at this
 ·have j1 : ¬ (i : Int) * 64 < (n : Int) := by omega
  have j2 : min ((i : Int) * 64) (n : Int) = (n : Int) := by omega
  have j3 : min ((n : Int) + 64) (n : Int) = (n : Int) := by omega
  go_enter Tryz.func31, Tryz.ntmps31
  go_wp2_with fail
  go_ret
  refine ⟨_, _, rfl, by omega, ?_, rfl⟩
  rw [List.drop_of_length_le (by rw [H.out.len]; omega), List.take_nil]
  first | exact SlG.empty _ _ _ (by omega) | (simp; exact SlG.empty _ _ _ (by omega))
end Go.Proofs.YtbfepgjeecndiaaGreat
