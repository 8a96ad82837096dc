/- slices.IndexFunc and slices.DeleteFunc over texts. -/
import Derived.Test.YtbfepgjeecndiaaGreatJ40
import Derived.Test.YtbfepgjeecndiaaGreatJ41
import Derived.Test.YtbfepgjeecndiaaGreatJ42
namespace Go.Proofs.YtbfepgjeecndiaaGreat
set_option maxRecDepth 100000
set_option maxHeartbeats 8000000
open Go.RowKit
set_option linter.unusedVariables false
set_option linter.unusedSimpArgs false
set_option linter.unusedSectionVars false
attribute [local go_sem ↓] Go.wp_at_zero Go.wp_at_succ
structure TstTe (fn B : Nat) (q : TeR → Bool) (K : World → Prop) : Prop where
 eg : ∀ args w, (callFunc fn args).run Tryz.prog w = .ok (.enter fn args) w
 says : ∀ x W, K W → RowT.ok x W → Calls Tryz.prog fn #[Value.slice x.A x.n x.c, .pointer (some ⟨B, 0, none⟩)] W fun e w' => e = .returned (.bool (q x)) ∧ Ext W w'
 ext : ∀ W W', K W → Ext W W' → K W'
 row : ∀ W W' g, K W → (∃ cur p, W.heap[g]? = some (.cells cur 28 p)) → W.grownBy W' (some g) → K W'
theorem TstTe.at {fn B : Nat} {q : TeR → Bool} {K : World → Prop} (h : TstTe fn B q K) {w0 w : World} {base n c : Nat} {A : Option Addr} {d : Array TeR} (k : RowS w0 w base 28 A n c d) (hK : K w) {i : Nat} (hi : i < n) {R : TeR} (hR : d[i]! = R) (vx : Value) (hx : Value.slice R.A R.n R.c = vx) (b : Bool) (hb : q d[i]! = b) :
  Hid (∀ W, Ext w W → Calls Tryz.prog fn #[vx, .pointer (some ⟨B, 0, none⟩)] W fun e w' => e = .returned (.bool b) ∧ Ext W w') := by
 subst hR; rw [← hx, ← hb]
 exact Lib.hid (fun W hW => h.says _ W (h.ext _ _ hK hW) ((RowS.ext k hW).ok hi))
def IxOutTe (w : World) (q : TeR → Bool) (n : Nat) (d : Array TeR) (e : Ending) (w' : World) : Prop := Ext w w' ∧ ((e = .returned (.int .i64 (-1)) ∧ Dl0 q d n) ∨ ∃ k, k < n ∧ e = .returned (.int .i64 (k : Int)) ∧ q d[k]! = true ∧ Dl0 q d k)
theorem indexTe_any {fn B : Nat} {q : TeR → Bool} {K : World → Prop} (ht : TstTe fn B q K) (w0 w : World) (base : Nat) (A : Option Addr) (n c : Nat) (d : Array TeR) (h : RowS w0 w base 28 A n c d) (hK : K w) (hn : n ≤ 1000000000) :
  Calls Tryz.prog 69 #[.slice A n c, .func (.func fn) #[] #[.pointer (some ⟨B, 0, none⟩)]] w (IxOutTe w q n d) := by
 have eg := ht.eg
 have HT := Lib.hid ht
 have HD0 := Lib.hid h
 have HK0 := Lib.hid hK
 have HSZ := Lib.hid (RowS.size h)
 clear ht hK
 go_enter Tryz.func69, Tryz.ntmps69
 go_wp2_with fail
 go_loopw [8] (fun vi wr => ∃ k : Nat, vi = .int .i64 (k : Int) ∧ k ≤ n ∧ Hid (Dl0 q d k) ∧ Hid (Ext w wr)) (fun i _ => n - (intOf i).toNat)
 case atStart => exact ⟨0, rfl, Nat.zero_le _, Lib.hid (Dl0.start d), Lib.hid (Ext.refl w)⟩
 case round =>
  obtain ⟨k, rfl, hk, HN, HE⟩ := hrel
  by_cases hlt : k < n
  ·have HD := Lib.hid (RowS.ext HD0.out HE.out)
   have HK := Lib.hid (HT.out.ext _ _ HK0.out HE.out)
   obtain ⟨g, rfl, -, -⟩ := RowS.at HD.out (by omega)
   have i1 : (k : Int) < (n : Int) := by omega
   cases hb : q d[k]! with
   | false =>
    have HB := Lib.hid hb
    obtain ⟨R, hR⟩ : ∃ R, d[k]! = R := ⟨_, rfl⟩
    obtain ⟨vx, hvx⟩ : ∃ v, Value.slice R.A R.n R.c = v := ⟨_, rfl⟩
    have HVX := Lib.hid hvx
    have HKR := Lib.hid hR
    have L1 := Lib.hid (fun (W : World) (he : Ext wr W) => show W.cell? ⟨g, k, none⟩ = some vx from by rw [← HVX.out]; exact RowTe.load HD.out rfl hlt hR he)
    have HCM := HT.out.at HD.out HK.out hlt hR vx hvx false hb
    clear hvx hR
    clear hb
    have hc1 := L1.out wr (Ext.refl _)
    go_wp2_with fail
    refine (HCM.out _ (Ext.refl _)).mono ?_
    rintro e w3 ⟨rfl, he3⟩
    have HN2 := Lib.hid (HN.out.next (by rw [HSZ.out]; exact hlt) HB.out)
    have HE2 := Lib.hid (HE.out.trans he3)
    clear HCM L1 HVX hc1 he3
    go_wp2_with fail
    go_roundw
    case rel => exact ⟨k + 1, by go_num, hlt, HN2, HE2⟩
    case measure => simp [intOf]; omega
   | true =>
    have HB := Lib.hid hb
    obtain ⟨R, hR⟩ : ∃ R, d[k]! = R := ⟨_, rfl⟩
    obtain ⟨vx, hvx⟩ : ∃ v, Value.slice R.A R.n R.c = v := ⟨_, rfl⟩
    have HVX := Lib.hid hvx
    have HKR := Lib.hid hR
    have L1 := Lib.hid (fun (W : World) (he : Ext wr W) => show W.cell? ⟨g, k, none⟩ = some vx from by rw [← HVX.out]; exact RowTe.load HD.out rfl hlt hR he)
    have HCM := HT.out.at HD.out HK.out hlt hR vx hvx true hb
    clear hvx hR
    clear hb
    have hc1 := L1.out wr (Ext.refl _)
    go_wp2_with fail
    refine (HCM.out _ (Ext.refl _)).mono ?_
    rintro e w3 ⟨rfl, he3⟩
    have HE2 := Lib.hid (HE.out.trans he3)
    clear HCM L1 HVX hc1 he3
    go_wp2_with fail
    go_ret
    exact ⟨HE2.out, .inr ⟨k, hlt, rfl, HB.out, HN.out⟩⟩
  ·obtain ⟨k2, hk2⟩ : ∃ q, q = k := ⟨_, rfl⟩
   have i1 : ¬ (k : Int) < (n : Int) := by omega
   have HF := Lib.hid (show Dl0 q d n from by rw [show n = k from by omega]; exact HN.out)
   go_wp2_with fail
   go_ret
   exact ⟨HE.out, .inl ⟨rfl, HF.out⟩⟩
theorem own_typed2T {w : World} {base : Nat} {e : TypeId} {size g n c : Nat} {xs : List Value} (h : w.ownsRow base e size (.slice (some ⟨g, 0, none⟩) n c) n xs) : ∃ cur p, w.heap[g]? = some (.cells cur e p) := by
 rcases h.2 with ⟨hv, _⟩ | ⟨g', cap, cur, hv, _, hh, _⟩
 ·cases hv
 ·cases hv; exact ⟨_, _, hh⟩
def DfOutTe (w0 : World) (base : Nat) (q : TeR → Bool) (K : World → Prop) (A : Option Addr) (n c : Nat) (d : Array TeR) (e : Ending) (w' : World) : Prop := ∃ (m : Nat) (d' : Array TeR), e = .returned (.slice A m c) ∧ m ≤ n ∧ RowS w0 w' base 28 A m c d' ∧ d'.toList = keepL q d.toList ∧ K w'
theorem deleteTe_any {fn B : Nat} {q : TeR → Bool} {K : World → Prop} (ht : TstTe fn B q K) (w0 w : World) (base : Nat) (A : Option Addr) (n c : Nat) (d : Array TeR) (h : RowS w0 w base 28 A n c d) (hK : K w) (hn : n ≤ 1000000000) (hnc : n ≤ c) (hc : c ≤ 9223372036854775807) :
  Calls Tryz.prog 35 #[.slice A n c, .func (.func fn) #[] #[.pointer (some ⟨B, 0, none⟩)]] w (DfOutTe w0 base q K A n c d) := by
 have HIX := Lib.hid (indexTe_any ht w0 w base A n c d h hK hn)
 have eg := ht.eg
 have HT := Lib.hid ht
 have HD0 := Lib.hid h
 have HK0 := Lib.hid hK
 have HSZ := Lib.hid (RowS.size h)
 clear ht hK
 go_enter Tryz.func35, Tryz.ntmps35
 go_wp2_with fail
 refine HIX.out.mono ?_
 rintro e w1 ⟨he1, ⟨rfl, hno⟩ | ⟨k, hk, rfl, hyes, hno⟩⟩
 ·have HF := Lib.hid (show d.toList = keepL q d.toList from (hno.all (by rw [HSZ.out]; exact Nat.le_refl _)).symm)
  have HD1 := Lib.hid (RowS.ext HD0.out he1)
  have HK1 := Lib.hid (HT.out.ext _ _ HK0.out he1)
  clear hno he1 HIX h
  go_wp2_with fail
  go_ret
  exact ⟨n, d, rfl, Nat.le_refl _, HD1.out, HF.out, HK1.out⟩
 ·have HC1 := Lib.hid (hno.hit (by rw [HSZ.out]; exact hk) hyes)
  have HD1 := Lib.hid (RowS.ext HD0.out he1)
  have HK1 := Lib.hid (HT.out.ext _ _ HK0.out he1)
  obtain ⟨g, rfl, -, -⟩ := RowS.at HD1.out (by omega)
  clear hno hyes he1 HIX h HD0 HK0
  go_wp2_with fail
  go_loopw [5, 6] (fun vi vj wr => ∃ (i j : Nat) (dk : Array TeR), vi = .int .i64 (i : Int) ∧ vj = .int .i64 (j : Int) ∧ i < j ∧ j ≤ n ∧ Hid (Dls q d dk i j) ∧ Hid (RowS w0 wr base 28 (some ⟨g, 0, none⟩) n c dk) ∧ Hid (K wr)) (fun _ j _ => n - (intOf j).toNat)
  case atStart => exact ⟨k, k + 1, d, rfl, by go_num, by omega, by omega, HC1, HD1, HK1⟩
  case round =>
   clear HC1 HD1 HK1
   obtain ⟨i, j, dk, rfl, rfl, hij, hjn, HC, HD, HK⟩ := hrel
   by_cases hlt : j < n
   ·have hin : i < n := by omega
    have i1 : (j : Int) < (n : Int) := by omega
    have i2 : (i : Int) < (n : Int) := by omega
    have HR1 := Lib.hid (HC.out.rest j (by omega))
    cases hb : q dk[j]! with
    | false =>
     have HB := Lib.hid hb
     obtain ⟨R, hR⟩ : ∃ R, dk[j]! = R := ⟨_, rfl⟩
     obtain ⟨vx, hvx⟩ : ∃ v, Value.slice R.A R.n R.c = v := ⟨_, rfl⟩
     have HVX := Lib.hid hvx
     have HKR := Lib.hid hR
     have L1 := Lib.hid (fun (W : World) (he : Ext wr W) => show W.cell? ⟨g, j, none⟩ = some vx from by rw [← HVX.out]; exact RowTe.load HD.out rfl hlt hR he)
     have HCM := HT.out.at HD.out HK.out hlt hR vx hvx false hb
     clear hvx hR
     clear hb
     have hc1 := L1.out wr (Ext.refl _)
     go_wp2_with fail
     refine (HCM.out _ (Ext.refl _)).mono ?_
     rintro e w6 ⟨rfl, he6⟩
     have HE6 := Lib.hid he6
     clear hc1 he6
     have HD6 := Lib.hid (RowS.ext HD.out HE6.out)
     have HK6 := Lib.hid (HT.out.ext _ _ HK.out HE6.out)
     have HJS : j < d.size := by rw [HSZ.out]; exact hlt
     have HC2 := Lib.hid (show Dls q d (dk.setIfInBounds i R) (i + 1) (j + 1) from by have h1 := HC.out.keep HJS (by have := HB.out; rw [HR1.out] at this; exact this); rw [← HR1.out, HKR.out] at h1; exact h1)
     have HD7 := Lib.hid (RowTe.set HD6.out rfl hin R (by rw [← HKR.out]; exact HD6.out.owAt hlt))
     obtain rfl := HVX.out
     obtain ⟨c8, c8f⟩ := RowTe.there HD6.out rfl hin
     have HK7 := Lib.hid (fun (W : World) (hg : w6.grownBy W (some g)) => HT.out.row _ W g HK6.out (own_typed2T HD6.out.own) hg)
     clear HC HCM L1 HE6 HJS HK HKR
     have HD8 := Lib.hid HD7.out
     have HK8 := Lib.hid (HK7.out _ (grown_set w6 g i (.slice R.A R.n R.c)))
     clear HD7 HD6 HK6 HK7 HD
     obtain ⟨W8, hW8⟩ : ∃ W, w6.setCell ⟨g, i, none⟩ (.slice R.A R.n R.c) = W := ⟨_, rfl⟩
     rw [hW8] at HD8 HK8
     go_wp2_with fail
     go_roundw
     case rel => (repeat apply Exists.intro); exact ⟨⟨i + 1, j + 1, dk.setIfInBounds i R, by go_num, by go_num, by omega, by omega, HC2, HD8, HK8⟩, rfl⟩
     case measure => simp [intOf]; omega
    | true =>
     have HB := Lib.hid hb
     obtain ⟨R, hR⟩ : ∃ R, dk[j]! = R := ⟨_, rfl⟩
     obtain ⟨vx, hvx⟩ : ∃ v, Value.slice R.A R.n R.c = v := ⟨_, rfl⟩
     have HVX := Lib.hid hvx
     have HKR := Lib.hid hR
     have L1 := Lib.hid (fun (W : World) (he : Ext wr W) => show W.cell? ⟨g, j, none⟩ = some vx from by rw [← HVX.out]; exact RowTe.load HD.out rfl hlt hR he)
     have HCM := HT.out.at HD.out HK.out hlt hR vx hvx true hb
     clear hvx hR
     clear hb
     have hc1 := L1.out wr (Ext.refl _)
     go_wp2_with fail
     refine (HCM.out _ (Ext.refl _)).mono ?_
     rintro e w6 ⟨rfl, he6⟩
     have HE6 := Lib.hid he6
     clear hc1 he6
     have HD6 := Lib.hid (RowS.ext HD.out HE6.out)
     have HK6 := Lib.hid (HT.out.ext _ _ HK.out HE6.out)
     have HJS : j < d.size := by rw [HSZ.out]; exact hlt
     have HC2 := Lib.hid (HC.out.skip HJS (by have := HB.out; rw [HR1.out] at this; exact this))
     clear HD HC HCM L1 HVX HK HE6 HJS
     go_wp2_with fail
     go_roundw
     case rel => (repeat apply Exists.intro); exact ⟨⟨i, j + 1, dk, rfl, by go_num, by omega, by omega, HC2, HD6, HK6⟩, rfl⟩
     case measure => simp [intOf]; omega
   ·have i3 : ¬ (j : Int) < (n : Int) := by omega
    have y1 : i ≤ n := by omega
    have y2 : i ≤ c := by omega
    have y3 : ¬ c = i := by omega
    have y4 : ¬ n = i := by omega
    have y5 : 0 < n - i := by omega
    have HF := Lib.hid (show dk.toList.take i = keepL q d.toList from HC.out.all (by rw [HSZ.out]; omega))
    have hcl := fun ty => run_clearG teE te0_one wr ty g (i) (n - i) (c - i) y5 (RowTe.clearOk HD.out rfl y1).1 (RowTe.clearOk HD.out rfl y1).2
    have HD2 := Lib.hid (RowTe.cutClear HD.out rfl y1 (Builtin.zeroCells (Value.slice none 0 0).cells (n - i)).toList)
    have HK2 := Lib.hid (HT.out.row _ _ g HK.out (own_typed2T HD.out.own) (grown_setCells' wr g (Builtin.zeroCells (Value.slice none 0 0).cells (n - i)).toList (i)))
    have HLE := Lib.hid y1
    clear HD HC HK
    obtain ⟨W8, hW8⟩ : ∃ W, wr.setCells g (i) (Builtin.zeroCells (Value.slice none 0 0).cells (n - i)).toList = W := ⟨_, rfl⟩
    simp only [hW8] at hcl
    have HD3 := Lib.hid (show RowS w0 W8 base 28 (some ⟨g, 0, none⟩) i c (dk.toList.take i).toArray from by rw [← hW8]; exact HD2.out)
    have HK3 := Lib.hid (show K W8 from by rw [← hW8]; exact HK2.out)
    clear HD2 HK2 hW8
    go_wp2_with fail
    go_ret
    exact ⟨i, _, rfl, HLE.out, HD3.out, HF.out, HK3.out⟩
end Go.Proofs.YtbfepgjeecndiaaGreat

/- Views and parcels as bytes, both ways (plain). -/
namespace Go.Proofs.YtbfepgjeecndiaaGreat
open Go.RowKit
set_option linter.unusedVariables false
set_option linter.unusedSimpArgs false
theorem vldSv_iff {v : SgV} : vldSv v = true ↔ vldVt v.1 = true ∧ v.2.length = 370 := by unfold vldSv; rw [Bool.and_eq_true, decide_eq_true_eq]
theorem chunk_back {r r' : List UInt8} {v : SgV} (h : chunk r = some (v, r')) : r = encSv v ++ r' ∧ vldSv v = true ∧ v.1.wf := by
 unfold chunk at h
 split at h
 ·rename_i hc
  obtain ⟨hc1, hc2⟩ := hc
  injection h with h
  injection h with h1 h2
  subst h1 h2
  have l1 : (r.take 23).length = 23 := by rw [List.length_take]; omega
  refine ⟨?_, vldSv_iff.2 ⟨hc2, by simp only [List.length_drop, List.length_take]; omega⟩, decVt_wf _⟩
  unfold encSv
  simp only
  rw [enc_decVt l1]
  have e : r.take 23 = (r.take 393).take 23 := by rw [List.take_take]; rfl
  rw [e, List.take_append_drop, List.take_append_drop]
 ·cases h
theorem contT_back : ∀ (M : Nat) (s : Option (List UInt8)) (P : List SgV) (Q : List (List UInt8)) (L : List SgV) (X : List (List UInt8)), contT M s P Q = some (L, X) → L = P ∧ ∃ X', X = Q ++ X' ∧ X'.length = M ∧ s = some (X'.flatMap fun l => blob l) ∧ ∀ x ∈ X', x.length ≤ 65535
 | 0, s, P, Q, L, X, h => by
  rw [contT_zero] at h
  split at h
  ·rename_i hs
   injection h with h
   injection h with h1 h2
   subst h1 h2
   exact ⟨rfl, [], by simp, rfl, hs, fun x hx => by cases hx⟩
  ·cases h
 | M + 1, s, P, Q, L, X, h => by
  rw [contT_step] at h
  obtain ⟨h1, X', h2, h3, h4, h5⟩ := contT_back M _ P _ L X h
  obtain ⟨h6, h7⟩ := blob_back h4
  refine ⟨h1, rBlob s :: X', by rw [h2]; simp, by rw [List.length_cons, h3], ?_, fun x hx => ?_⟩
  ·rw [List.flatMap_cons]; exact h6
  ·rcases List.mem_cons.1 hx with rfl | hx
   ·exact h7
   ·exact h5 x hx
theorem contS_back : ∀ (N : Nat) (r0 : List UInt8) (P : List SgV) (L : List SgV) (X : List (List UInt8)), contS N (some r0) P = some (L, X) → ∃ L' r, L'.length = N ∧ r0 = L'.flatMap encSv ++ r ∧ contS 0 (some r) (P ++ L') = some (L, X) ∧ ∀ v ∈ L', vldSv v = true ∧ v.1.wf
 | 0, r0, P, L, X, h => ⟨[], r0, rfl, by simp, by simpa using h, fun v hv => by cases hv⟩
 | N + 1, r0, P, L, X, h => by
  cases hc : chunk r0 with
  | none => rw [contS_no hc] at h; cases h
  | some q =>
   obtain ⟨v, r1⟩ := q
   rw [contS_yes hc] at h
   obtain ⟨L', r, h1, h2, h3, h4⟩ := contS_back N r1 _ L X h
   obtain ⟨h5, h6, h7⟩ := chunk_back hc
   refine ⟨v :: L', r, by rw [List.length_cons, h1], by rw [List.flatMap_cons, List.append_assoc, ← h2]; exact h5, by rw [← h3]; simp, fun u hu => ?_⟩
   rcases List.mem_cons.1 hu with rfl | hu
   ·exact ⟨h6, h7⟩
   ·exact h4 u hu
theorem rawVw_back {l : List UInt8} {L : List SgV} {X : List (List UInt8)} (h : rawVw l = some (L, X)) : encVwV L X = l ∧ (∀ v ∈ L, vldSv v = true ∧ v.1.wf) ∧ (∀ x ∈ X, x.length ≤ 65535) ∧ L.length < 4294967296 ∧ X.length < 4294967296 := by
 unfold rawVw at h
 cases h4 : rRest 4 (some l) with
 | none => rw [h4, contS_none] at h; cases h
 | some r0 =>
  rw [h4] at h
  obtain ⟨L', r, h1, h2, h3, h5⟩ := contS_back _ _ _ _ _ h
  rw [List.nil_append, contS_zero] at h3
  obtain ⟨rfl, X', h6, h7, h8, h9⟩ := contT_back _ _ _ _ _ _ h3
  rw [List.nil_append] at h6
  subst h6
  have b1 := be_back (by omega) h4
  have b2 := be_back (by omega) h8
  have n1 := rNum_bd 4 (some l)
  have n2 := rNum_bd 4 (some r)
  have e1 : (L.length : Int) = rNum 4 (some l) := by rw [h1]; omega
  have e2 : (X.length : Int) = rNum 4 (some r) := by rw [h7]; omega
  refine ⟨?_, h5, h9, by omega, by omega⟩
  unfold encVwV
  rw [e1, e2, List.append_assoc]
  injection b1 with b1
  injection b2 with b2
  rw [← b2, ← h2, ← b1]
/-! parcels -/
theorem vwEV_zero {L : List SgV} {X : List (List UInt8)} : vwEV L X = 0 ↔ L.all vldSv = true ∧ X.all okTv = true ∧ (adjB ltSv L && adjB lexB X) = true := by
 unfold vwEV
 split
 ·rename_i h
  split
  ·rename_i h2; exact ⟨fun _ => ⟨h.1, h.2, h2⟩, fun _ => rfl⟩
  ·rename_i h2; exact ⟨fun hh => absurd hh (by decide), fun hh => absurd hh.2.2 h2⟩
 ·rename_i h; exact ⟨fun hh => absurd hh (by decide), fun hh => absurd ⟨hh.1, hh.2.1⟩ h⟩
theorem pcEV_zero {L : List SgV} {X : List (List UInt8)} : pcEV L X = 0 ↔ lrgN L.length X.length = false ∧ vwEV L X = 0 := by
 unfold pcEV
 split
 ·rename_i h; rw [h]; exact ⟨fun hh => absurd hh (by decide), fun hh => absurd hh.1 (by decide)⟩
 ·rename_i h; exact ⟨fun hh => ⟨by simpa using h, hh⟩, fun hh => hh.2⟩
theorem okTv_all {X : List (List UInt8)} (h : X.all okTv = true) : ∀ x ∈ X, x.length ≤ 65535 := fun x hx => of_decide_eq_true (List.all_eq_true.1 h x hx)
theorem lrgN_bd {n m : Nat} (h : lrgN n m = false) : n ≤ 64 ∧ m ≤ 64 := by
 unfold lrgN at h
 rw [Bool.or_eq_false_iff] at h
 have h1 := of_decide_eq_false h.1
 have h2 := of_decide_eq_false h.2
 omega
theorem encPcV_dec {l : List UInt8} {L : List SgV} {X : List (List UInt8)} (h : pcDecV l = some (L, X)) : pcEV L X = 0 ∧ encPcV L X = l ∧ (∀ v ∈ L, v.1.wf) := by
 unfold pcDecV at h
 split at h
 ·rename_i hc
  obtain ⟨hc1, hc2⟩ := hc
  split at h
  ·cases h
  ·rename_i L2 X2 hr
   split at h
   ·rename_i ho
    injection h with h
    injection h with h1 h2
    subst h1 h2
    obtain ⟨b1, b2, b3, -, -⟩ := rawVw_back hr
    refine ⟨pcEV_zero.2 ⟨ho.2, vwEV_zero.2 ⟨List.all_eq_true.2 (fun v hv => (b2 v hv).1), List.all_eq_true.2 (fun x hx => decide_eq_true (b3 x hx)), ho.1⟩⟩, ?_, fun v hv => (b2 v hv).2⟩
    unfold sumOk at hc2
    have hc2 := of_decide_eq_true hc2
    unfold encPcV
    rw [b1, hc2, List.take_append_drop]
   ·cases h
 ·cases h
end Go.Proofs.YtbfepgjeecndiaaGreat

/- The two tests of parcel.Missing: is this vote (this text) in the set? -/
namespace Go.Proofs.YtbfepgjeecndiaaGreat
set_option maxRecDepth 100000
set_option maxHeartbeats 4000000
open Go.RowKit
set_option linter.unusedVariables false
set_option linter.unusedSimpArgs false
attribute [local go_sem ↓] Go.wp_at_zero Go.wp_at_succ
structure SetV (B M n : Nat) (S : List VtR) (w : World) : Prop where
 blk : Blk w B 55 #[.map (some M)]
 map : w.ownsMap Tryz.prog 46 (plainElem Tryz.prog 4) M n (Maps.setOf yesD (S.map vtKl))
structure SetT (B M n : Nat) (S : List (List UInt8)) (w : World) : Prop where
 blk : Blk w B 56 #[.map (some M)]
 map : w.ownsMap Tryz.prog 9 (plainElem Tryz.prog 4) M n (Maps.setOf yesD (S.map teKl))
section
variable {H : Type} {P : Program} {k : TypeId} {R : Value → Option (DataW H × List MemPlace)} {B M n b : Nat} {D : DataW H} {w w' : World}
theorem map_block (h : w.ownsMap P k R b n D) : ∃ es clock, w.heap[b]? = some (.map es clock) := by
 obtain ⟨es, clock, hb, _⟩ := h
 exact ⟨es, clock, hb⟩
theorem map_ext (h : w.ownsMap P k R b n D) (he : Ext w w') : w'.ownsMap P k R b n D := h.kept (Ext.grown he none) (by simp)
theorem map_row (h : w.ownsMap P k R b n D) {g : Nat} (hr : ∃ cur e p, w.heap[g]? = some (.cells cur e p)) (hg : w.grownBy w' (some g)) : w'.ownsMap P k R b n D := h.kept hg (fun e => by
 injection e with e; subst e
 obtain ⟨es, clock, h1⟩ := map_block h
 obtain ⟨cur, e, p, h2⟩ := hr
 rw [h1] at h2; cases h2)
end
section
variable {B M n : Nat} {S : List VtR} {S' : List (List UInt8)} {w w' : World}
theorem SetV.ext (h : SetV B M n S w) (he : Ext w w') : SetV B M n S w' := ⟨h.blk.ext he, map_ext h.map he⟩
theorem SetT.ext (h : SetT B M n S' w) (he : Ext w w') : SetT B M n S' w' := ⟨h.blk.ext he, map_ext h.map he⟩
theorem SetV.row (h : SetV B M n S w) {g : Nat} {e : TypeId} (hr : ∃ cur p, w.heap[g]? = some (.cells cur e p)) (he : e ≠ 55) (hg : w.grownBy w' (some g)) : SetV B M n S w' := by
 obtain ⟨cur, p, h2⟩ := hr
 refine ⟨h.blk.grown hg (fun q => ?_), map_row h.map ⟨cur, e, p, h2⟩ hg⟩
 injection q with q; subst q
 have h1 := h.blk
 unfold Blk at h1
 rw [h2] at h1; injection h1 with h1; injection h1 with _ h1; exact he h1
theorem SetT.row (h : SetT B M n S' w) {g : Nat} {e : TypeId} (hr : ∃ cur p, w.heap[g]? = some (.cells cur e p)) (he : e ≠ 56) (hg : w.grownBy w' (some g)) : SetT B M n S' w' := by
 obtain ⟨cur, p, h2⟩ := hr
 refine ⟨h.blk.grown hg (fun q => ?_), map_row h.map ⟨cur, e, p, h2⟩ hg⟩
 injection q with q; subst q
 have h1 := h.blk
 unfold Blk at h1
 rw [h2] at h1; injection h1 with h1; injection h1 with _ h1; exact he h1
end
theorem zeroBool (w : World) : (zeroValue 4).run Tryz.prog w = .ok (.bool false) w := by kernel_rfl
theorem wpList_loadVtV {o : Oper} {a : Act} {w : World} {ops : Array Oper} {rest : List Oper} {Q : Exit → Act → World → Prop} (hgd : o.guard = none) (x : Operand) (ho : o.op = .load 46 x) (b of : Nat) (hx : a.eval x = .pointer (some ⟨b, of, none⟩)) (R : VtR) (v : Value) (hv : Value.agg (vtA R) = v) (hc : w.rangeAt b of (vtL R))
  (h : wpList Tryz.prog ops Q rest (a.put o.dst v) w) : wpList Tryz.prog ops Q (o :: rest) a w := wpList_loadVt hgd x ho b of hx R hc (by rw [hv]; exact h)
theorem SetV.look {B M n : Nat} {S : List VtR} {w : World} (h : SetV B M n S w) (hS : ∀ x ∈ S, x.wf) (v : VtR) (hv : v.wf) (vv : Value) (hvv : Value.agg (vtA v) = vv) : (Instr.lookup 55 (.map (some M)) vv false).run Tryz.prog w = .ok (.bool (decide (v ∈ S))) w := by
 have := look_set lawVt Tryz.underlying55 Tryz.underlying4 (zeroBool w) h.map (keyOf_vt v hv)
 rw [← hvv, this, any_vt hS hv]
theorem SetT.look {B M n : Nat} {S : List (List UInt8)} {w : World} (h : SetT B M n S w) (l : List UInt8) (hl : l.length ≤ maxLen) (vv : ByteArray) (hvv : strV l = vv) : (Instr.lookup 56 (.map (some M)) (.string vv) false).run Tryz.prog w = .ok (.bool (decide (l ∈ S))) w := by
 have := look_set lawStr Tryz.underlying56 Tryz.underlying4 (zeroBool w) h.map (keyOf_te l hl)
 rw [← hvv]; unfold strV; rw [this, any_te]
theorem miss1_any {B M n : Nat} {S : List VtR} (hS : ∀ x ∈ S, x.wf) (x : SgR) (w : World) (hK : SetV B M n S w) (hx : x.ok w) : Calls Tryz.prog 34 #[.agg (sgA x), .pointer (some ⟨B, 0, none⟩)] w fun e w' => e = .returned (.bool (decide (x.v ∈ S))) ∧ Ext w w' := by
 obtain ⟨W5, hW5⟩ : ∃ W5, w.alloc (.cells (sgA x) 48) = W5 := ⟨_, rfl⟩
 obtain ⟨vv, hvv⟩ : ∃ v, Value.agg (vtA x.v) = v := ⟨_, rfl⟩
 have HVV := Lib.hid hvv
 have HE := Lib.hid (show Ext w W5 from by rw [← hW5]; exact (Ext.refl w).alloc' _)
 have HB := Lib.hid (show Blk W5 w.heap.size 48 (sgA x) from by rw [← hW5]; exact Blk.new _ _ _)
 have HK := Lib.hid (hK.ext HE.out)
 have hc : W5.cell? ⟨B, 0, none⟩ = some (.map (some M)) := HK.out.blk.cell 0
 have hr : W5.rangeAt w.heap.size 0 (vtL x.v) := rangeAt_take (k := 22) (rangeAt_of_blk HB.out)
 have hlk := HK.out.look hS x.v hx.v vv hvv
 obtain ⟨r, hR⟩ : ∃ r, decide (x.v ∈ S) = r := ⟨_, rfl⟩
 rw [hR] at hlk ⊢
 clear hvv hK hx hR
 go_enter Tryz.func34, Tryz.ntmps34
 go_wp2_with (first | (with_reducible refine wpList_loadVtV rfl (.tmp 5) rfl w.heap.size 0 rfl x.v vv HVV.out hr ?_))
 go_ret
 exact ⟨rfl, HE.out⟩
theorem miss2_any {B M n : Nat} {S : List (List UInt8)} (x : TeR) (w : World) (hK : SetT B M n S w) (hx : x.ok w) : Calls Tryz.prog 36 #[.slice x.A x.n x.c, .pointer (some ⟨B, 0, none⟩)] w fun e w' => e = .returned (.bool (decide (x.l ∈ S))) ∧ Ext w w' := by
 have hst := run_strV hx
 have hlen : x.l.length ≤ maxLen := by have := hx.len; have h2 := SlB.le hx; have h3 := SlB.cap hx; simp only [maxLen]; omega
 obtain ⟨vv, hvv⟩ : ∃ v, strV x.l = v := ⟨_, rfl⟩
 have hlk := hK.look x.l hlen vv hvv
 rw [hvv] at hst
 have hc : w.cell? ⟨B, 0, none⟩ = some (.map (some M)) := hK.blk.cell 0
 obtain ⟨r, hR⟩ : ∃ r, decide (x.l ∈ S) = r := ⟨_, rfl⟩
 rw [hR] at hlk ⊢
 clear hvv hK hx hR
 go_enter Tryz.func36, Tryz.ntmps36
 go_wp2_with fail
 go_ret
 exact ⟨rfl, Ext.refl _⟩
theorem miss1_tst (B M n B2 M2 n2 : Nat) (S : List VtR) (S2 : List (List UInt8)) (hS : ∀ x ∈ S, x.wf) : TstSg 34 B (fun x => decide (x.v ∈ S)) (fun W => SetV B M n S W ∧ SetT B2 M2 n2 S2 W) where
 eg := enters_of Tryz.func34 (by kernel_rfl) rfl
 says x W hK hx := miss1_any hS x W hK.1 hx
 ext W W' hK he := ⟨hK.1.ext he, hK.2.ext he⟩
 row W W' g hK hr hg := ⟨hK.1.row hr (by decide) hg, hK.2.row hr (by decide) hg⟩
theorem miss2_tst (B M n B2 M2 n2 : Nat) (S : List VtR) (S2 : List (List UInt8)) : TstTe 36 B2 (fun x => decide (x.l ∈ S2)) (fun W => SetV B M n S W ∧ SetT B2 M2 n2 S2 W) where
 eg := enters_of Tryz.func36 (by kernel_rfl) rfl
 says x W hK hx := miss2_any x W hK.2 hx
 ext W W' hK he := ⟨hK.1.ext he, hK.2.ext he⟩
 row W W' g hK hr hg := ⟨hK.1.row hr (by decide) hg, hK.2.row hr (by decide) hg⟩
end Go.Proofs.YtbfepgjeecndiaaGreat
