/- slices.IndexFunc and slices.DeleteFunc over texts. -/
import Derived.Test.YtbfepgjeecndiaaGreatK39
import Derived.Test.YtbfepgjeecndiaaGreatK42
namespace Go.Proofs.YtbfepgjeecndiaaGreat
set_option maxRecDepth 100000
set_option maxHeartbeats 8000000
open Go.RowKit
set_option linter.unusedVariables false
set_option linter.unusedSimpArgs false
set_option linter.unusedSectionVars false
attribute [local go_sem ↓] Go.wp_at_zero Go.wp_at_succ
structure TstTe (fn B : Nat) (q : TeR → Bool) (K : World → Prop) : Prop where
 eg : ∀ args w, (callFunc fn args).run Tryz.prog w = .ok (.enter fn args) w
 says : ∀ x W, K W → RowT.ok x W → Calls Tryz.prog fn #[Value.slice x.A x.n x.c, .pointer (some ⟨B, 0, none⟩)] W fun e w' => e = .returned (.bool (q x)) ∧ Ext W w'
 ext : ∀ W W', K W → Ext W W' → K W'
 row : ∀ W W' g, K W → (∃ cur p, W.heap[g]? = some (.cells cur 28 p)) → W.grownBy W' (some g) → K W'
theorem TstTe.at {fn B : Nat} {q : TeR → Bool} {K : World → Prop} (h : TstTe fn B q K) {w0 w : World} {base n c : Nat} {A : Option Addr} {d : Array TeR} (k : RowS w0 w base 28 A n c d) (hK : K w) {i : Nat} (hi : i < n) {R : TeR} (hR : d[i]! = R) (vx : Value) (hx : Value.slice R.A R.n R.c = vx) (b : Bool) (hb : q d[i]! = b) :
  Hid (∀ W, Ext w W → Calls Tryz.prog fn #[vx, .pointer (some ⟨B, 0, none⟩)] W fun e w' => e = .returned (.bool b) ∧ Ext W w') := by
 subst hR; rw [← hx, ← hb]
 exact Lib.hid (fun W hW => h.says _ W (h.ext _ _ hK hW) ((RowS.ext k hW).ok hi))
def IxOutTe (w : World) (q : TeR → Bool) (n : Nat) (d : Array TeR) (e : Ending) (w' : World) : Prop := Ext w w' ∧ ((e = .returned (.int .i64 (-1)) ∧ Dl0 q d n) ∨ ∃ k, k < n ∧ e = .returned (.int .i64 (k : Int)) ∧ q d[k]! = true ∧ Dl0 q d k)
theorem indexTe_any {fn B : Nat} {q : TeR → Bool} {K : World → Prop} (ht : TstTe fn B q K) (w0 w : World) (base : Nat) (A : Option Addr) (n c : Nat) (d : Array TeR) (h : RowS w0 w base 28 A n c d) (hK : K w) (hn : n ≤ 1000000000) :
  Calls Tryz.prog 69 #[.slice A n c, .func (.func fn) #[] #[.pointer (some ⟨B, 0, none⟩)]] w (IxOutTe w q n d) := by
 have eg := ht.eg
 have HT := Lib.hid ht
 have HD0 := Lib.hid h
 have HK0 := Lib.hid hK
 have HSZ := Lib.hid (RowS.size h)
 clear ht hK
 go_enter Tryz.func69, Tryz.ntmps69
 go_wp2_with fail
 go_loopw [8] (fun vi wr => ∃ k : Nat, vi = .int .i64 (k : Int) ∧ k ≤ n ∧ Hid (Dl0 q d k) ∧ Hid (Ext w wr)) (fun i _ => n - (intOf i).toNat)
 case atStart => exact ⟨0, rfl, Nat.zero_le _, Lib.hid (Dl0.start d), Lib.hid (Ext.refl w)⟩
 case round =>
  obtain ⟨k, rfl, hk, HN, HE⟩ := hrel
  by_cases hlt : k < n
  ·have HD := Lib.hid (RowS.ext HD0.out HE.out)
   have HK := Lib.hid (HT.out.ext _ _ HK0.out HE.out)
   obtain ⟨g, rfl, -, -⟩ := RowS.at HD.out (by omega)
   have i1 : (k : Int) < (n : Int) := by omega
   cases hb : q d[k]! with
   | false =>
    have HB := Lib.hid hb
    obtain ⟨R, hR⟩ : ∃ R, d[k]! = R := ⟨_, rfl⟩
    obtain ⟨vx, hvx⟩ : ∃ v, Value.slice R.A R.n R.c = v := ⟨_, rfl⟩
    have HVX := Lib.hid hvx
    have HKR := Lib.hid hR
    have L1 := Lib.hid (fun (W : World) (he : Ext wr W) => show W.cell? ⟨g, k, none⟩ = some vx from by rw [← HVX.out]; exact RowTe.load HD.out rfl hlt hR he)
    have HCM := HT.out.at HD.out HK.out hlt hR vx hvx false hb
    clear hvx hR
    clear hb
    have hc1 := L1.out wr (Ext.refl _)
    go_wp2_with fail
    refine (HCM.out _ (Ext.refl _)).mono ?_
    rintro e w3 ⟨rfl, he3⟩
    have HN2 := Lib.hid (HN.out.next (by rw [HSZ.out]; exact hlt) HB.out)
    have HE2 := Lib.hid (HE.out.trans he3)
    clear HCM L1 HVX hc1 he3
    go_wp2_with fail
    go_roundw
    case rel => exact ⟨k + 1, by go_num, hlt, HN2, HE2⟩
    case measure => simp [intOf]; omega
   | true =>
    have HB := Lib.hid hb
    obtain ⟨R, hR⟩ : ∃ R, d[k]! = R := ⟨_, rfl⟩
    obtain ⟨vx, hvx⟩ : ∃ v, Value.slice R.A R.n R.c = v := ⟨_, rfl⟩
    have HVX := Lib.hid hvx
    have HKR := Lib.hid hR
    have L1 := Lib.hid (fun (W : World) (he : Ext wr W) => show W.cell? ⟨g, k, none⟩ = some vx from by rw [← HVX.out]; exact RowTe.load HD.out rfl hlt hR he)
    have HCM := HT.out.at HD.out HK.out hlt hR vx hvx true hb
    clear hvx hR
    clear hb
    have hc1 := L1.out wr (Ext.refl _)
    go_wp2_with fail
    refine (HCM.out _ (Ext.refl _)).mono ?_
    rintro e w3 ⟨rfl, he3⟩
    have HE2 := Lib.hid (HE.out.trans he3)
    clear HCM L1 HVX hc1 he3
    go_wp2_with fail
    go_ret
    exact ⟨HE2.out, .inr ⟨k, hlt, rfl, HB.out, HN.out⟩⟩
  ·obtain ⟨k2, hk2⟩ : ∃ q, q = k := ⟨_, rfl⟩
   have i1 : ¬ (k : Int) < (n : Int) := by omega
   have HF := Lib.hid (show Dl0 q d n from by rw [show n = k from by omega]; exact HN.out)
   go_wp2_with fail
   go_ret
   exact ⟨HE.out, .inl ⟨rfl, HF.out⟩⟩
theorem own_typed2T {w : World} {base : Nat} {e : TypeId} {size g n c : Nat} {xs : List Value} (h : w.ownsRow base e size (.slice (some ⟨g, 0, none⟩) n c) n xs) : ∃ cur p, w.heap[g]? = some (.cells cur e p) := by
 rcases h.2 with ⟨hv, _⟩ | ⟨g', cap, cur, hv, _, hh, _⟩
 ·cases hv
 ·cases hv; exact ⟨_, _, hh⟩
def DfOutTe (w0 : World) (base : Nat) (q : TeR → Bool) (K : World → Prop) (A : Option Addr) (n c : Nat) (d : Array TeR) (e : Ending) (w' : World) : Prop := ∃ (m : Nat) (d' : Array TeR), e = .returned (.slice A m c) ∧ m ≤ n ∧ RowS w0 w' base 28 A m c d' ∧ d'.toList = keepL q d.toList ∧ K w'
theorem deleteTe_any {fn B : Nat} {q : TeR → Bool} {K : World → Prop} (ht : TstTe fn B q K) (w0 w : World) (base : Nat) (A : Option Addr) (n c : Nat) (d : Array TeR) (h : RowS w0 w base 28 A n c d) (hK : K w) (hn : n ≤ 1000000000) (hnc : n ≤ c) (hc : c ≤ 9223372036854775807) :
  Calls Tryz.prog 35 #[.slice A n c, .func (.func fn) #[] #[.pointer (some ⟨B, 0, none⟩)]] w (DfOutTe w0 base q K A n c d) := by
 have HIX := Lib.hid (indexTe_any ht w0 w base A n c d h hK hn)
 have eg := ht.eg
 have HT := Lib.hid ht
 have HD0 := Lib.hid h
 have HK0 := Lib.hid hK
 have HSZ := Lib.hid (RowS.size h)
 clear ht hK
 go_enter Tryz.func35, Tryz.ntmps35
 go_wp2_with fail
 refine HIX.out.mono ?_
 rintro e w1 ⟨he1, ⟨rfl, hno⟩ | ⟨k, hk, rfl, hyes, hno⟩⟩
 ·have HF := Lib.hid (show d.toList = keepL q d.toList from (hno.all (by rw [HSZ.out]; exact Nat.le_refl _)).symm)
  have HD1 := Lib.hid (RowS.ext HD0.out he1)
  have HK1 := Lib.hid (HT.out.ext _ _ HK0.out he1)
  clear hno he1 HIX h
  go_wp2_with fail
  go_ret
  exact ⟨n, d, rfl, Nat.le_refl _, HD1.out, HF.out, HK1.out⟩
 ·have HC1 := Lib.hid (hno.hit (by rw [HSZ.out]; exact hk) hyes)
  have HD1 := Lib.hid (RowS.ext HD0.out he1)
  have HK1 := Lib.hid (HT.out.ext _ _ HK0.out he1)
  obtain ⟨g, rfl, -, -⟩ := RowS.at HD1.out (by omega)
  clear hno hyes he1 HIX h HD0 HK0
  go_wp2_with fail
  go_loopw [5, 6] (fun vi vj wr => ∃ (i j : Nat) (dk : Array TeR), vi = .int .i64 (i : Int) ∧ vj = .int .i64 (j : Int) ∧ i < j ∧ j ≤ n ∧ Hid (Dls q d dk i j) ∧ Hid (RowS w0 wr base 28 (some ⟨g, 0, none⟩) n c dk) ∧ Hid (K wr)) (fun _ j _ => n - (intOf j).toNat)
  case atStart => exact ⟨k, k + 1, d, rfl, by go_num, by omega, by omega, HC1, HD1, HK1⟩
  case round =>
   clear HC1 HD1 HK1
   obtain ⟨i, j, dk, rfl, rfl, hij, hjn, HC, HD, HK⟩ := hrel
   by_cases hlt : j < n
   ·have hin : i < n := by omega
    have i1 : (j : Int) < (n : Int) := by omega
    have i2 : (i : Int) < (n : Int) := by omega
    have HR1 := Lib.hid (HC.out.rest j (by omega))
    cases hb : q dk[j]! with
    | false =>
     have HB := Lib.hid hb
     obtain ⟨R, hR⟩ : ∃ R, dk[j]! = R := ⟨_, rfl⟩
     obtain ⟨vx, hvx⟩ : ∃ v, Value.slice R.A R.n R.c = v := ⟨_, rfl⟩
     have HVX := Lib.hid hvx
     have HKR := Lib.hid hR
     have L1 := Lib.hid (fun (W : World) (he : Ext wr W) => show W.cell? ⟨g, j, none⟩ = some vx from by rw [← HVX.out]; exact RowTe.load HD.out rfl hlt hR he)
     have HCM := HT.out.at HD.out HK.out hlt hR vx hvx false hb
     clear hvx hR
     clear hb
     have hc1 := L1.out wr (Ext.refl _)
     go_wp2_with fail
     refine (HCM.out _ (Ext.refl _)).mono ?_
     rintro e w6 ⟨rfl, he6⟩
     have HE6 := Lib.hid he6
     clear hc1 he6
     have HD6 := Lib.hid (RowS.ext HD.out HE6.out)
     have HK6 := Lib.hid (HT.out.ext _ _ HK.out HE6.out)
     have HJS : j < d.size := by rw [HSZ.out]; exact hlt
     have HC2 := Lib.hid (show Dls q d (dk.setIfInBounds i R) (i + 1) (j + 1) from by have h1 := HC.out.keep HJS (by have := HB.out; rw [HR1.out] at this; exact this); rw [← HR1.out, HKR.out] at h1; exact h1)
     have HD7 := Lib.hid (RowTe.set HD6.out rfl hin R (by rw [← HKR.out]; exact HD6.out.owAt hlt))
     obtain rfl := HVX.out
     obtain ⟨c8, c8f⟩ := RowTe.there HD6.out rfl hin
     have HK7 := Lib.hid (fun (W : World) (hg : w6.grownBy W (some g)) => HT.out.row _ W g HK6.out (own_typed2T HD6.out.own) hg)
     clear HC HCM L1 HE6 HJS HK HKR
     have HD8 := Lib.hid HD7.out
     have HK8 := Lib.hid (HK7.out _ (grown_set w6 g i (.slice R.A R.n R.c)))
     clear HD7 HD6 HK6 HK7 HD
     obtain ⟨W8, hW8⟩ : ∃ W, w6.setCell ⟨g, i, none⟩ (.slice R.A R.n R.c) = W := ⟨_, rfl⟩
     rw [hW8] at HD8 HK8
     go_wp2_with fail
     go_roundw
     case rel => (repeat apply Exists.intro); exact ⟨⟨i + 1, j + 1, dk.setIfInBounds i R, by go_num, by go_num, by omega, by omega, HC2, HD8, HK8⟩, rfl⟩
     case measure => simp [intOf]; omega
    | true =>
     have HB := Lib.hid hb
     obtain ⟨R, hR⟩ : ∃ R, dk[j]! = R := ⟨_, rfl⟩
     obtain ⟨vx, hvx⟩ : ∃ v, Value.slice R.A R.n R.c = v := ⟨_, rfl⟩
     have HVX := Lib.hid hvx
     have HKR := Lib.hid hR
     have L1 := Lib.hid (fun (W : World) (he : Ext wr W) => show W.cell? ⟨g, j, none⟩ = some vx from by rw [← HVX.out]; exact RowTe.load HD.out rfl hlt hR he)
     have HCM := HT.out.at HD.out HK.out hlt hR vx hvx true hb
     clear hvx hR
     clear hb
     have hc1 := L1.out wr (Ext.refl _)
     go_wp2_with fail
     refine (HCM.out _ (Ext.refl _)).mono ?_
     rintro e w6 ⟨rfl, he6⟩
     have HE6 := Lib.hid he6
     clear hc1 he6
     have HD6 := Lib.hid (RowS.ext HD.out HE6.out)
     have HK6 := Lib.hid (HT.out.ext _ _ HK.out HE6.out)
     have HJS : j < d.size := by rw [HSZ.out]; exact hlt
     have HC2 := Lib.hid (HC.out.skip HJS (by have := HB.out; rw [HR1.out] at this; exact this))
     clear HD HC HCM L1 HVX HK HE6 HJS
     go_wp2_with fail
     go_roundw
     case rel => (repeat apply Exists.intro); exact ⟨⟨i, j + 1, dk, rfl, by go_num, by omega, by omega, HC2, HD6, HK6⟩, rfl⟩
     case measure => simp [intOf]; omega
   ·have i3 : ¬ (j : Int) < (n : Int) := by omega
    have y1 : i ≤ n := by omega
    have y2 : i ≤ c := by omega
    have y3 : ¬ c = i := by omega
    have y4 : ¬ n = i := by omega
    have y5 : 0 < n - i := by omega
    have HF := Lib.hid (show dk.toList.take i = keepL q d.toList from HC.out.all (by rw [HSZ.out]; omega))
    have hcl := fun ty => run_clearG teE te0_one wr ty g (i) (n - i) (c - i) y5 (RowTe.clearOk HD.out rfl y1).1 (RowTe.clearOk HD.out rfl y1).2
    have HD2 := Lib.hid (RowTe.cutClear HD.out rfl y1 (Builtin.zeroCells (Value.slice none 0 0).cells (n - i)).toList)
    have HK2 := Lib.hid (HT.out.row _ _ g HK.out (own_typed2T HD.out.own) (grown_setCells' wr g (Builtin.zeroCells (Value.slice none 0 0).cells (n - i)).toList (i)))
    have HLE := Lib.hid y1
    clear HD HC HK
    obtain ⟨W8, hW8⟩ : ∃ W, wr.setCells g (i) (Builtin.zeroCells (Value.slice none 0 0).cells (n - i)).toList = W := ⟨_, rfl⟩
    simp only [hW8] at hcl
    have HD3 := Lib.hid (show RowS w0 W8 base 28 (some ⟨g, 0, none⟩) i c (dk.toList.take i).toArray from by rw [← hW8]; exact HD2.out)
    have HK3 := Lib.hid (show K W8 from by rw [← hW8]; exact HK2.out)
    clear HD2 HK2 hW8
    go_wp2_with fail
    go_ret
    exact ⟨i, _, rfl, HLE.out, HD3.out, HF.out, HK3.out⟩
end Go.Proofs.YtbfepgjeecndiaaGreat

/- A part of a row (parcel.part). -/
namespace Go.Proofs.YtbfepgjeecndiaaGreat
set_option maxRecDepth 100000
set_option maxHeartbeats 4000000
open Go.RowKit
set_option linter.unusedVariables false
set_option linter.unusedSimpArgs false
attribute [local go_sem ↓] Go.wp_at_zero Go.wp_at_succ
theorem SlG.part {α : Type} [RowT α] {w : World} {A : Option Addr} {n c i t : Nat} {L : List α} (h : SlG w A n c L) (hi : i * 64 < n) (ht : t = min (i * 64 + 64) n) : SlG w (A.map (·.add (i * 64 * RowT.sz α))) (t - i * 64) (t - i * 64) ((L.drop (i * 64)).take 64) := by
 have hle := h.le
 have hcap := h.cap
 have h2 := (h.cut (k := i * 64) (by omega) (by omega)).upto (k := t - i * 64) (c' := t - i * 64) (by omega) (Nat.le_refl _) (by omega)
 have hl : (L.drop (i * 64)).length = n - i * 64 := by rw [List.length_drop, h.len]
 have e : (L.drop (i * 64)).take (t - i * 64) = (L.drop (i * 64)).take 64 := by
  by_cases h3 : i * 64 + 64 ≤ n
  ·rw [show t - i * 64 = 64 from by omega]
  ·rw [List.take_of_length_le (by omega), List.take_of_length_le (by omega)]
 rwa [e] at h2
theorem partSg_any (A : Option Addr) (n c : Nat) (L : List SgR) (i : Nat) (w0 w : World) (h : SlG w0 A n c L) (hi : i ≤ 1000000000) (hn : n ≤ 1000000000) :
  Calls Tryz.prog 30 #[.slice A n c, .int .i64 (i : Int)] w fun e w' => ∃ A' n', e = .returned (.slice A' n' n') ∧ n' ≤ n ∧ SlG w0 A' n' n' ((L.drop (i * 64)).take 64) ∧ w = w' := by
 have hcap := h.cap
 have hle := h.le
 have H := Lib.hid h
 clear h
 have wz : IntKind.i64.wrap ((i : Int) * 64) = (i : Int) * 64 := by rw [IntKind.wrap_i64]; omega
 by_cases h1 : i * 64 < n
 ·have j1 : (i : Int) * 64 < (n : Int) := by omega
  go_enter Tryz.func30, Tryz.ntmps30
  go_wp2_with fail
  go_ret
  have hf : (min ((i : Int) * 64) (n : Int)).toNat = i * 64 := by omega
  obtain ⟨t, ht⟩ : ∃ t, t = min (i * 64 + 64) n := ⟨_, rfl⟩
  have ht2 : (min (min ((i : Int) * 64) (n : Int) + 64) (n : Int)).toNat = t := by omega
  refine ⟨_, _, rfl, by omega, ?_, rfl⟩
  rw [hf, ht2]
  exact H.out.part h1 ht
 ·have j1 : ¬ (i : Int) * 64 < (n : Int) := by omega
  have j2 : min ((i : Int) * 64) (n : Int) = (n : Int) := by omega
  have j3 : min ((n : Int) + 64) (n : Int) = (n : Int) := by omega
  go_enter Tryz.func30, Tryz.ntmps30
  go_wp2_with fail
  go_ret
  refine ⟨_, _, rfl, by omega, ?_, rfl⟩
  rw [List.drop_of_length_le (by rw [H.out.len]; omega), List.take_nil]
  first | exact SlG.empty _ _ _ (by omega) | (simp; exact SlG.empty _ _ _ (by omega))
theorem partTe_any (A : Option Addr) (n c : Nat) (L : List TeR) (i : Nat) (w0 w : World) (h : SlG w0 A n c L) (hi : i ≤ 1000000000) (hn : n ≤ 1000000000) :
  Calls Tryz.prog 31 #[.slice A n c, .int .i64 (i : Int)] w fun e w' => ∃ A' n', e = .returned (.slice A' n' n') ∧ n' ≤ n ∧ SlG w0 A' n' n' ((L.drop (i * 64)).take 64) ∧ w = w' := by
 have hcap := h.cap
 have hle := h.le
 have H := Lib.hid h
 clear h
 have wz : IntKind.i64.wrap ((i : Int) * 64) = (i : Int) * 64 := by rw [IntKind.wrap_i64]; omega
 by_cases h1 : i * 64 < n
 ·have j1 : (i : Int) * 64 < (n : Int) := by omega
  go_enter Tryz.func31, Tryz.ntmps31
  go_wp2_with fail
  go_ret
  have hf : (min ((i : Int) * 64) (n : Int)).toNat = i * 64 := by omega
  obtain ⟨t, ht⟩ : ∃ t, t = min (i * 64 + 64) n := ⟨_, rfl⟩
  have ht2 : (min (min ((i : Int) * 64) (n : Int) + 64) (n : Int)).toNat = t := by omega
  refine ⟨_, _, rfl, by omega, ?_, rfl⟩
  rw [hf, ht2]
  exact show SlG w0 (A.map (·.add (i * 64))) _ _ _ from by have := H.out.part h1 ht; rwa [show RowT.sz TeR = 1 from rfl, Nat.mul_one] at this
 ·have j1 : ¬ (i : Int) * 64 < (n : Int) := by omega
  have j2 : min ((i : Int) * 64) (n : Int) = (n : Int) := by omega
  have j3 : min ((n : Int) + 64) (n : Int) = (n : Int) := by omega
  go_enter Tryz.func31, Tryz.ntmps31
  go_wp2_with fail
  go_ret
  refine ⟨_, _, rfl, by omega, ?_, rfl⟩
  rw [List.drop_of_length_le (by rw [H.out.len]; omega), List.take_nil]
  first | exact SlG.empty _ _ _ (by omega) | (simp; exact SlG.empty _ _ _ (by omega))
end Go.Proofs.YtbfepgjeecndiaaGreat

/- The small view of the law's sanity check, as values (plain). -/
namespace Go.Proofs.YtbfepgjeecndiaaGreat
open Go.RowKit
set_option linter.unusedVariables false
set_option linter.unusedSimpArgs false
def awE : List UInt8 := [0, 0, 0, 0, 0, 0, 0, 2, 0, 1, 1, 0, 1, 2]
theorem awE_enc : encVwV [] [[1], [2]] = awE := by kernel_rfl
theorem awE_raw : rawVw awE = some ([], [[1], [2]]) := by kernel_rfl
theorem aw_err : pcEV [] [[1], [2]] = 0 := by kernel_rfl
theorem aw_canon : canonO lexB [[(1 : UInt8)], [2]] = [[1], [2]] := by kernel_rfl
theorem aw_canon0 : canonO ltSv [] = [] := rfl
theorem aw_enc : encPcV [] [[1], [2]] = nmb (tagU 89 awE) ++ awE := by unfold encPcV; rw [awE_enc]
theorem aw_len : (encPcV [] [[1], [2]]).length = 22 := by rw [aw_enc, List.length_append, nmb_length]; rfl
theorem aw_dec : pcDecV (encPcV [] [[1], [2]]) = some ([], [[1], [2]]) := by
 have h1 : (nmb (tagU 89 awE) ++ awE).drop 8 = awE := by
  rw [List.drop_append, nmb_length]; rw [List.drop_of_length_le (by rw [nmb_length]; exact Nat.le_refl _)]; rfl
 have h2 : (nmb (tagU 89 awE) ++ awE).take 8 = nmb (tagU 89 awE) := by
  rw [List.take_append, nmb_length, List.take_of_length_le (by rw [nmb_length]; exact Nat.le_refl _)]; simp
 have h3 : sumOk (nmb (tagU 89 awE) ++ awE) = true := by unfold sumOk; rw [h1, h2]; exact decide_eq_true rfl
 rw [aw_enc]
 unfold pcDecV
 rw [if_pos ⟨by rw [List.length_append, nmb_length]; decide, h3⟩, h1, awE_raw]
 exact if_pos (by decide)
theorem aw_split : splV (canonO ltSv []) (canonO lexB [[(1 : UInt8)], [2]]) = ([encPcV [] [[1], [2]]], 0) := by
 rw [aw_canon, aw_canon0]
 have h : splN ([] : List SgV) [[(1 : UInt8)], [2]] = 1 := by decide
 unfold splV
 rw [h, splF, if_neg (show ¬ pcEV (prt ([] : List SgV) 0) (prt [[(1 : UInt8)], [2]] 0) ≠ 0 from by rw [show pcEV (prt ([] : List SgV) 0) (prt [[(1 : UInt8)], [2]] 0) = 0 from by kernel_rfl]; simp)]
 rfl
theorem aw_join : joV [encPcV [] [[1], [2]], []] = (([], [[1], [2]]), 1) := by
 unfold joV
 rw [List.foldl_cons, List.foldl_cons, List.foldl_nil]
 unfold joS
 rw [aw_dec, pcDecV_short (show ([] : List UInt8).length < 8 from by decide)]
 rfl
theorem aw_miss : (canonO lexB [[(1 : UInt8)], [2]]).filter (fun l => !decide (l ∈ [[(1 : UInt8)]])) = [[2]] := by kernel_rfl
end Go.Proofs.YtbfepgjeecndiaaGreat

/- What the bytes of a parcel are answered with: its code (plain). -/
namespace Go.Proofs.YtbfepgjeecndiaaGreat
open Go.RowKit
set_option linter.unusedVariables false
set_option linter.unusedSimpArgs false
attribute [local go_sem ↓] Go.wp_at_zero Go.wp_at_succ
theorem eqG_of_map {α β : Type} [RowT α] [DecidableEq β] (f : α → β) (e : α → α → Bool) (he : ∀ x y, e x y = decide (f x = f y)) {L M : List α} (h : L.map f = M.map f) : eqG e L M = true := by
 have hl : L.length = M.length := by simpa using congrArg List.length h
 refine eqG_yes hl (fun k hk => ?_)
 rw [he]
 refine decide_eq_true ?_
 have h1 : (L.map f)[k]? = (M.map f)[k]? := by rw [h]
 rw [List.getElem?_map, List.getElem?_map, nthG_get hk, nthG_get (by rw [← hl]; exact hk)] at h1
 simpa using h1
theorem eqVw_of {L L' : List SgR} {X X' : List TeR} (h1 : L.map SgR.V = L'.map SgR.V) (h2 : X.map TeR.l = X'.map TeR.l) : eqVw L X L' X' = true := by
 unfold eqVw
 rw [eqG_of_map SgR.V eqSg eqSg_V h1, eqG_of_map TeR.l eqTe (fun x y => rfl) h2]; rfl
def pcCd (l : List UInt8) : Int := if l.length < 8 then 2 else if sumOk l = false then 104 else match rawVw (l.drop 8) with
 | none => 4
 | some (LV, XV) => if (adjB ltSv LV && adjB lexB XV) = false then 4 else if lrgN LV.length XV.length = true then 5 else 0
theorem pcCd_zero {l : List UInt8} {q : List SgV × List (List UInt8)} (h : pcDecV l = some q) : pcCd l = 0 := by
 unfold pcDecV at h
 unfold pcCd
 split at h
 ·rename_i hc
  rw [if_neg (by omega), if_neg (by rw [hc.2]; decide)]
  cases hr : rawVw (l.drop 8) with
  | none => rw [hr] at h; cases h
  | some p =>
   obtain ⟨LV, XV⟩ := p
   rw [hr] at h
   simp only at h ⊢
   split at h
   ·rename_i ho
    rw [if_neg (by rw [ho.1]; decide), if_neg (by rw [ho.2]; decide)]
   ·cases h
 ·cases h
def PcDec3 (w : World) (l : List UInt8) (e : Ending) (w' : World) : Prop :=
 ∃ (A : Option Addr) (n c : Nat) (L : List SgR) (B : Option Addr) (m d : Nat) (X : List TeR), e = .returned (.tuple #[.agg (vwA A n c B m d), .int .i64 (pcCd l)]) ∧ VwO w' w.heap.size A n c L B m d X ∧ Ext w w' ∧
  ((pcCd l ≠ 0 ∧ L = [] ∧ X = []) ∨ (pcCd l = 0 ∧ pcDecV l = some (L.map SgR.V, X.map TeR.l) ∧ n ≤ 64 ∧ m ≤ 64))
theorem PcDec.to3 {w : World} {l : List UInt8} {e : Ending} {w' : World} (h : PcDec w l e w') : PcDec3 w l e w' := by
 obtain ⟨A', n', c', L, B, m, d, X, z, he, hv, hE, hc⟩ := h
 have go : z = pcCd l → ((pcCd l ≠ 0 ∧ L = [] ∧ X = []) ∨ (pcCd l = 0 ∧ pcDecV l = some (L.map SgR.V, X.map TeR.l) ∧ n' ≤ 64 ∧ m ≤ 64)) → PcDec3 w l e w' := fun hz hh => by
  rw [hz] at he
  exact ⟨A', n', c', L, B, m, d, X, he, hv, hE, hh⟩
 rcases hc with ⟨rfl, h, h1, h2⟩ | ⟨rfl, h8, h, h1, h2⟩ | ⟨rfl, h8, hs, h1, h2, h⟩ | ⟨rfl, h8, hs, h1, h2, L2, X2, hr, ho, h⟩ | ⟨rfl, h8, hs, hr, ho, hl, hv2⟩
 ·have e1 : pcCd l = 2 := by unfold pcCd; rw [if_pos h]
  exact go e1.symm (.inl ⟨by rw [e1]; decide, h1, h2⟩)
 ·have e1 : pcCd l = 104 := by unfold pcCd; rw [if_neg (by omega), if_pos h]
  exact go e1.symm (.inl ⟨by rw [e1]; decide, h1, h2⟩)
 ·have e1 : pcCd l = 4 := by
   unfold pcCd
   rw [if_neg (by omega), if_neg (by rw [hs]; decide)]
   cases hr : rawVw (l.drop 8) with
   | none => rfl
   | some p =>
    obtain ⟨LV, XV⟩ := p
    have := h (LV.map mkSg) (XV.map mkTe) (by rw [mkSg_V, mkTe_l]; exact hr)
    rw [ordV_V, mkSg_V, mkTe_l] at this
    simp only
    rw [if_pos this]
  exact go e1.symm (.inl ⟨by rw [e1]; decide, h1, h2⟩)
 ·have e1 : pcCd l = 5 := by
   unfold pcCd
   rw [if_neg (by omega), if_neg (by rw [hs]; decide), hr]
   simp only
   rw [ordV_V] at ho
   rw [if_neg (by rw [ho]; decide), List.length_map, List.length_map, if_pos h]
  exact go e1.symm (.inl ⟨by rw [e1]; decide, h1, h2⟩)
 ·have hd := pcDecV_yes h8 hs hr ho hl
  have e1 := pcCd_zero hd
  have hn : L.length = n' := hv.sl1.len
  have hm : X.length = m := hv.sl2.len
  have hb := lrgN_bd hl
  exact go e1.symm (.inr ⟨e1, hd, by omega, by omega⟩)
theorem pcDec3_any (A : Option Addr) (n c : Nat) (l : List UInt8) (w : World) (hS : SlB w A n c l) (hbd : n ≤ 100000000) : Calls Tryz.prog 11 #[.slice A n c] w (PcDec3 w l) := (pcDec_any A n c l w hS hbd).mono fun e w' h => h.to3
theorem splF_ok (L : List SgV) (X : List (List UInt8)) (hw : ∀ v ∈ L, v.1.wf) : ∀ (k i : Nat) (acc : List (List UInt8)), (∀ q ∈ acc, ∃ p, pcDecV q = some p) → ∀ q ∈ (splF L X k i acc).1, ∃ p, pcDecV q = some p
 | 0, i, acc, h, q, hq => h q hq
 | k + 1, i, acc, h, q, hq => by
  unfold splF at hq
  split at hq
  ·cases hq
  ·rename_i hz
   refine splF_ok L X hw k (i + 1) _ (fun r hr => ?_) q hq
   rcases List.mem_append.1 hr with hr | hr
   ·exact h r hr
   ·rw [List.mem_singleton.1 hr]
    exact ⟨_, pcDecV_enc (fun v hv => hw v (List.mem_of_mem_drop (List.mem_of_mem_take hv))) (Classical.byContradiction hz)⟩
theorem splV_ok (L : List SgV) (X : List (List UInt8)) (hw : ∀ v ∈ L, v.1.wf) : ∀ q ∈ (splV L X).1, ∃ p, pcDecV q = some p := splF_ok L X hw _ _ _ (fun q hq => by cases hq)
end Go.Proofs.YtbfepgjeecndiaaGreat
