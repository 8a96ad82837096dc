/- slices.IndexFunc and slices.DeleteFunc over votes. -/
import Derived.Test.YtbfepgjeecndiaaGreatJ32
import Derived.Test.YtbfepgjeecndiaaGreatJ37
namespace Go.Proofs.YtbfepgjeecndiaaGreat
set_option maxRecDepth 100000
set_option maxHeartbeats 8000000
open Go.RowKit
set_option linter.unusedVariables false
set_option linter.unusedSimpArgs false
set_option linter.unusedSectionVars false
attribute [local go_sem ↓] Go.wp_at_zero Go.wp_at_succ
structure TstSg (fn B : Nat) (q : SgR → Bool) (K : World → Prop) : Prop where
 eg : ∀ args w, (callFunc fn args).run Tryz.prog w = .ok (.enter fn args) w
 says : ∀ x W, K W → RowT.ok x W → Calls Tryz.prog fn #[Value.agg (sgA x), .pointer (some ⟨B, 0, none⟩)] W fun e w' => e = .returned (.bool (q x)) ∧ Ext W w'
 ext : ∀ W W', K W → Ext W W' → K W'
 row : ∀ W W' g, K W → (∃ cur p, W.heap[g]? = some (.cells cur 48 p)) → W.grownBy W' (some g) → K W'
theorem TstSg.at {fn B : Nat} {q : SgR → Bool} {K : World → Prop} (h : TstSg fn B q K) {w0 w : World} {base n c : Nat} {A : Option Addr} {d : Array SgR} (k : RowS w0 w base 48 A n c d) (hK : K w) {i : Nat} (hi : i < n) {R : SgR} (hR : d[i]! = R) (vx : Value) (hx : Value.agg (sgA R) = vx) (b : Bool) (hb : q d[i]! = b) :
  Hid (∀ W, Ext w W → Calls Tryz.prog fn #[vx, .pointer (some ⟨B, 0, none⟩)] W fun e w' => e = .returned (.bool b) ∧ Ext W w') := by
 subst hR; rw [← hx, ← hb]
 exact Lib.hid (fun W hW => h.says _ W (h.ext _ _ hK hW) ((RowS.ext k hW).ok hi))
theorem wpList_newSgV {o : Oper} {a : Act} {w : World} {ops : Array Oper} {rest : List Oper} {Q : Exit → Act → World → Prop} (hgd : o.guard = none) (x y : Operand) (ho : o.op = .store 48 x y) (cs : Array Value) (hcs : cs.size = 23) (R : SgR) (v : Value) (hv : Value.agg (sgA R) = v) (hx : a.eval x = .pointer (some ⟨w.heap.size, 0, none⟩)) (hy : a.eval y = v)
  (h : ∀ W2, Hid (w.alloc (.cells (sgA R) 48) = W2) → wpList Tryz.prog ops Q rest (a.put o.dst undef) W2) : wpList Tryz.prog ops Q (o :: rest) a (w.alloc (.cells cs 48)) := wpList_newSg hgd x y ho cs hcs R hx (by rw [hy, hv]) (h _ (Lib.hid rfl))
def IxOutSg (w : World) (q : SgR → Bool) (n : Nat) (d : Array SgR) (e : Ending) (w' : World) : Prop := Ext w w' ∧ ((e = .returned (.int .i64 (-1)) ∧ Dl0 q d n) ∨ ∃ k, k < n ∧ e = .returned (.int .i64 (k : Int)) ∧ q d[k]! = true ∧ Dl0 q d k)
theorem indexSg_any {fn B : Nat} {q : SgR → Bool} {K : World → Prop} (ht : TstSg fn B q K) (w0 w : World) (base : Nat) (A : Option Addr) (n c : Nat) (d : Array SgR) (h : RowS w0 w base 48 A n c d) (hK : K w) (hn : n ≤ 1000000000) :
  Calls Tryz.prog 68 #[.slice A n c, .func (.func fn) #[] #[.pointer (some ⟨B, 0, none⟩)]] w (IxOutSg w q n d) := by
 have eg := ht.eg
 have HT := Lib.hid ht
 have HD0 := Lib.hid h
 have HK0 := Lib.hid hK
 have HSZ := Lib.hid (RowS.size h)
 clear ht hK
 go_enter Tryz.func68, Tryz.ntmps68
 go_wp2_with fail
 go_loopw [8] (fun vi wr => ∃ k : Nat, vi = .int .i64 (k : Int) ∧ k ≤ n ∧ Hid (Dl0 q d k) ∧ Hid (Ext w wr)) (fun i _ => n - (intOf i).toNat)
 case atStart => exact ⟨0, rfl, Nat.zero_le _, Lib.hid (Dl0.start d), Lib.hid (Ext.refl w)⟩
 case round =>
  obtain ⟨k, rfl, hk, HN, HE⟩ := hrel
  by_cases hlt : k < n
  ·have HD := Lib.hid (RowS.ext HD0.out HE.out)
   have HK := Lib.hid (HT.out.ext _ _ HK0.out HE.out)
   obtain ⟨g, rfl, -, -⟩ := RowS.at HD.out (by omega)
   have i1 : (k : Int) < (n : Int) := by omega
   cases hb : q d[k]! with
   | false =>
    have HB := Lib.hid hb
    obtain ⟨R, hR⟩ : ∃ R, d[k]! = R := ⟨_, rfl⟩
    obtain ⟨vx, hvx⟩ : ∃ v, Value.agg (sgA R) = v := ⟨_, rfl⟩
    have HVX := Lib.hid hvx
    have HKR := Lib.hid hR
    have L1 := Lib.hid (fun (W : World) (he : Ext wr W) => show W.rangeAt g (k * 23) (sgL R) from by exact RowSg.load HD.out rfl hlt hR he)
    have HCM := HT.out.at HD.out HK.out hlt hR vx hvx false hb
    clear hvx hR
    clear hb
    go_wp2_with (first | (with_reducible refine wpList_loadSgV rfl (.tmp 14) rfl g (k * 23) rfl R vx HVX.out (L1.out _ (Ext.refl _)) ?_))
    
    refine (HCM.out _ (Ext.refl _)).mono ?_
    rintro e w3 ⟨rfl, he3⟩
    have HN2 := Lib.hid (HN.out.next (by rw [HSZ.out]; exact hlt) HB.out)
    have HE2 := Lib.hid (HE.out.trans he3)
    clear HCM L1 HVX  he3
    go_wp2_with fail
    go_roundw
    case rel => exact ⟨k + 1, by go_num, hlt, HN2, HE2⟩
    case measure => simp [intOf]; omega
   | true =>
    have HB := Lib.hid hb
    obtain ⟨R, hR⟩ : ∃ R, d[k]! = R := ⟨_, rfl⟩
    obtain ⟨vx, hvx⟩ : ∃ v, Value.agg (sgA R) = v := ⟨_, rfl⟩
    have HVX := Lib.hid hvx
    have HKR := Lib.hid hR
    have L1 := Lib.hid (fun (W : World) (he : Ext wr W) => show W.rangeAt g (k * 23) (sgL R) from by exact RowSg.load HD.out rfl hlt hR he)
    have HCM := HT.out.at HD.out HK.out hlt hR vx hvx true hb
    clear hvx hR
    clear hb
    go_wp2_with (first | (with_reducible refine wpList_loadSgV rfl (.tmp 14) rfl g (k * 23) rfl R vx HVX.out (L1.out _ (Ext.refl _)) ?_))
    
    refine (HCM.out _ (Ext.refl _)).mono ?_
    rintro e w3 ⟨rfl, he3⟩
    have HE2 := Lib.hid (HE.out.trans he3)
    clear HCM L1 HVX  he3
    go_wp2_with fail
    go_ret
    exact ⟨HE2.out, .inr ⟨k, hlt, rfl, HB.out, HN.out⟩⟩
  ·obtain ⟨k2, hk2⟩ : ∃ q, q = k := ⟨_, rfl⟩
   have i1 : ¬ (k : Int) < (n : Int) := by omega
   have HF := Lib.hid (show Dl0 q d n from by rw [show n = k from by omega]; exact HN.out)
   go_wp2_with fail
   go_ret
   exact ⟨HE.out, .inl ⟨rfl, HF.out⟩⟩
theorem own_typed2 {w : World} {base : Nat} {e : TypeId} {size g n c : Nat} {xs : List Value} (h : w.ownsRow base e size (.slice (some ⟨g, 0, none⟩) n c) n xs) : ∃ cur p, w.heap[g]? = some (.cells cur e p) := by
 rcases h.2 with ⟨hv, _⟩ | ⟨g', cap, cur, hv, _, hh, _⟩
 ·cases hv
 ·cases hv; exact ⟨_, _, hh⟩
def DfOutSg (w0 : World) (base : Nat) (q : SgR → Bool) (K : World → Prop) (A : Option Addr) (n c : Nat) (d : Array SgR) (e : Ending) (w' : World) : Prop := ∃ (m : Nat) (d' : Array SgR), e = .returned (.slice A m c) ∧ m ≤ n ∧ RowS w0 w' base 48 A m c d' ∧ d'.toList = keepL q d.toList ∧ K w'
theorem deleteSg_any {fn B : Nat} {q : SgR → Bool} {K : World → Prop} (ht : TstSg fn B q K) (w0 w : World) (base : Nat) (A : Option Addr) (n c : Nat) (d : Array SgR) (h : RowS w0 w base 48 A n c d) (hK : K w) (hn : n ≤ 1000000000) (hnc : n ≤ c) (hc : c ≤ 9223372036854775807) :
  Calls Tryz.prog 33 #[.slice A n c, .func (.func fn) #[] #[.pointer (some ⟨B, 0, none⟩)]] w (DfOutSg w0 base q K A n c d) := by
 have HIX := Lib.hid (indexSg_any ht w0 w base A n c d h hK hn)
 have eg := ht.eg
 have HT := Lib.hid ht
 have HD0 := Lib.hid h
 have HK0 := Lib.hid hK
 have HSZ := Lib.hid (RowS.size h)
 clear ht hK
 go_enter Tryz.func33, Tryz.ntmps33
 go_wp2_with fail
 refine HIX.out.mono ?_
 rintro e w1 ⟨he1, ⟨rfl, hno⟩ | ⟨k, hk, rfl, hyes, hno⟩⟩
 ·have HF := Lib.hid (show d.toList = keepL q d.toList from (hno.all (by rw [HSZ.out]; exact Nat.le_refl _)).symm)
  have HD1 := Lib.hid (RowS.ext HD0.out he1)
  have HK1 := Lib.hid (HT.out.ext _ _ HK0.out he1)
  clear hno he1 HIX h
  go_wp2_with fail
  go_ret
  exact ⟨n, d, rfl, Nat.le_refl _, HD1.out, HF.out, HK1.out⟩
 ·have HC1 := Lib.hid (hno.hit (by rw [HSZ.out]; exact hk) hyes)
  have HD1 := Lib.hid (RowS.ext HD0.out he1)
  have HK1 := Lib.hid (HT.out.ext _ _ HK0.out he1)
  obtain ⟨g, rfl, -, -⟩ := RowS.at HD1.out (by omega)
  clear hno hyes he1 HIX h HD0 HK0
  go_wp2_with fail
  go_loopw [5, 6] (fun vi vj wr => ∃ (i j : Nat) (dk : Array SgR), vi = .int .i64 (i : Int) ∧ vj = .int .i64 (j : Int) ∧ i < j ∧ j ≤ n ∧ Hid (Dls q d dk i j) ∧ Hid (RowS w0 wr base 48 (some ⟨g, 0, none⟩) n c dk) ∧ Hid (K wr)) (fun _ j _ => n - (intOf j).toNat)
  case atStart => exact ⟨k, k + 1, d, rfl, by go_num, by omega, by omega, HC1, HD1, HK1⟩
  case round =>
   clear HC1 HD1 HK1
   obtain ⟨i, j, dk, rfl, rfl, hij, hjn, HC, HD, HK⟩ := hrel
   by_cases hlt : j < n
   ·have hin : i < n := by omega
    have i1 : (j : Int) < (n : Int) := by omega
    have i2 : (i : Int) < (n : Int) := by omega
    have HR1 := Lib.hid (HC.out.rest j (by omega))
    cases hb : q dk[j]! with
    | false =>
     have HB := Lib.hid hb
     obtain ⟨R, hR⟩ : ∃ R, dk[j]! = R := ⟨_, rfl⟩
     obtain ⟨vx, hvx⟩ : ∃ v, Value.agg (sgA R) = v := ⟨_, rfl⟩
     have HVX := Lib.hid hvx
     have HKR := Lib.hid hR
     have L1 := Lib.hid (fun (W : World) (he : Ext wr W) => show W.rangeAt g (j * 23) (sgL R) from by exact RowSg.load HD.out rfl hlt hR he)
     have HCM := HT.out.at HD.out HK.out hlt hR vx hvx false hb
     clear hvx hR
     clear hb
     go_wp2_with (first | (with_reducible refine wpList_loadSgV rfl (.tmp 24) rfl g (j * 23) rfl R vx HVX.out (L1.out _ (Ext.refl _)) ?_) | (with_reducible refine wpList_newSgV rfl (.tmp 7) (.tmp 25) rfl _ rfl R vx HVX.out rfl rfl ?_))
     intro W5 h5
     have HE5 := Lib.hid (show Ext wr W5 from by rw [← h5.out]; exact (Ext.refl wr).alloc' _)
     have HB5 := Lib.hid (show Blk W5 wr.heap.size 48 (sgA R) from by rw [← h5.out]; exact Blk.new wr 48 (sgA R))
     clear h5
     have hr5 : W5.rangeAt wr.heap.size 0 (sgL R) := rangeAt_of_blk HB5.out
     go_wp2_with (first | (with_reducible refine wpList_loadSgV rfl (.tmp 7) rfl wr.heap.size 0 rfl R vx HVX.out hr5 ?_))
     refine (HCM.out _ HE5.out).mono ?_
     rintro e w6 ⟨rfl, he6⟩
     have HE6 := Lib.hid (HE5.out.trans he6)
     have HB6 := Lib.hid (HB5.out.ext he6)
     clear hr5 he6
     have HD6 := Lib.hid (RowS.ext HD.out HE6.out)
     have HK6 := Lib.hid (HT.out.ext _ _ HK.out HE6.out)
     have HJS : j < d.size := by rw [HSZ.out]; exact hlt
     have HC2 := Lib.hid (show Dls q d (dk.setIfInBounds i R) (i + 1) (j + 1) from by have h1 := HC.out.keep HJS (by have := HB.out; rw [HR1.out] at this; exact this); rw [← HR1.out, HKR.out] at h1; exact h1)
     have HD7 := Lib.hid (HD6.out.set rfl hin R (by rw [← HKR.out]; exact HD6.out.owAt hlt))
     have ht : w6.there g (i * 23) 23 := HD6.out.there rfl hin
     have hr6 : w6.rangeAt wr.heap.size 0 (sgL R) := rangeAt_of_blk HB6.out
     have HK7 := Lib.hid (fun (W : World) (hg : w6.grownBy W (some g)) => HT.out.row _ W g HK6.out (own_typed2 HD6.out.own) hg)
     clear HC HCM L1 HE6 HJS HK HKR HE5 HB5 HB6
     go_wp2_with (first | (with_reducible refine wpList_loadSgV rfl (.tmp 7) rfl wr.heap.size 0 rfl R vx HVX.out hr6 ?_) | (with_reducible refine wpList_storeSgV rfl (.tmp 33) (.tmp 32) rfl g (i * 23) rfl R vx HVX.out rfl ht ?_))
     have HD8 := Lib.hid HD7.out
     have HK8 := Lib.hid (HK7.out _ (grown_setCells' w6 g (sgL R) (i * 23)))
     clear HD7 HD6 HK6 HK7 HD
     generalize w6.setCells g (i * 23) (sgL R) = W8 at HD8 HK8 ⊢
     go_wp2_with fail
     go_roundw
     case rel => (repeat apply Exists.intro); exact ⟨⟨i + 1, j + 1, dk.setIfInBounds i R, by go_num, by go_num, by omega, by omega, HC2, HD8, HK8⟩, rfl⟩
     case measure => simp [intOf]; omega
    | true =>
     have HB := Lib.hid hb
     obtain ⟨R, hR⟩ : ∃ R, dk[j]! = R := ⟨_, rfl⟩
     obtain ⟨vx, hvx⟩ : ∃ v, Value.agg (sgA R) = v := ⟨_, rfl⟩
     have HVX := Lib.hid hvx
     have HKR := Lib.hid hR
     have L1 := Lib.hid (fun (W : World) (he : Ext wr W) => show W.rangeAt g (j * 23) (sgL R) from by exact RowSg.load HD.out rfl hlt hR he)
     have HCM := HT.out.at HD.out HK.out hlt hR vx hvx true hb
     clear hvx hR
     clear hb
     go_wp2_with (first | (with_reducible refine wpList_loadSgV rfl (.tmp 24) rfl g (j * 23) rfl R vx HVX.out (L1.out _ (Ext.refl _)) ?_) | (with_reducible refine wpList_newSgV rfl (.tmp 7) (.tmp 25) rfl _ rfl R vx HVX.out rfl rfl ?_))
     intro W5 h5
     have HE5 := Lib.hid (show Ext wr W5 from by rw [← h5.out]; exact (Ext.refl wr).alloc' _)
     have HB5 := Lib.hid (show Blk W5 wr.heap.size 48 (sgA R) from by rw [← h5.out]; exact Blk.new wr 48 (sgA R))
     clear h5
     have hr5 : W5.rangeAt wr.heap.size 0 (sgL R) := rangeAt_of_blk HB5.out
     go_wp2_with (first | (with_reducible refine wpList_loadSgV rfl (.tmp 7) rfl wr.heap.size 0 rfl R vx HVX.out hr5 ?_))
     refine (HCM.out _ HE5.out).mono ?_
     rintro e w6 ⟨rfl, he6⟩
     have HE6 := Lib.hid (HE5.out.trans he6)
     have HB6 := Lib.hid (HB5.out.ext he6)
     clear hr5 he6
     have HD6 := Lib.hid (RowS.ext HD.out HE6.out)
     have HK6 := Lib.hid (HT.out.ext _ _ HK.out HE6.out)
     have HJS : j < d.size := by rw [HSZ.out]; exact hlt
     have HC2 := Lib.hid (HC.out.skip HJS (by have := HB.out; rw [HR1.out] at this; exact this))
     clear HD HC HCM L1 HVX HK HE6 HJS HE5 HB5 HB6
     go_wp2_with fail
     go_roundw
     case rel => (repeat apply Exists.intro); exact ⟨⟨i, j + 1, dk, rfl, by go_num, by omega, by omega, HC2, HD6, HK6⟩, rfl⟩
     case measure => simp [intOf]; omega
   ·have i3 : ¬ (j : Int) < (n : Int) := by omega
    have y1 : i ≤ n := by omega
    have y2 : i ≤ c := by omega
    have y3 : ¬ c = i := by omega
    have y4 : ¬ n = i := by omega
    have y5 : 0 < n - i := by omega
    have HF := Lib.hid (show dk.toList.take i = keepL q d.toList from HC.out.all (by rw [HSZ.out]; omega))
    have hcl := fun ty => run_clearG sgE sg0_one wr ty g (i * 23) (n - i) (c - i) y5 (HD.out.clearOk rfl y1).1 (HD.out.clearOk rfl y1).2
    have HD2 := Lib.hid (HD.out.cutClear rfl y1 (Builtin.zeroCells (Value.agg sg0).cells (n - i)).toList)
    have HK2 := Lib.hid (HT.out.row _ _ g HK.out (own_typed2 HD.out.own) (grown_setCells' wr g (Builtin.zeroCells (Value.agg sg0).cells (n - i)).toList (i * 23)))
    have HLE := Lib.hid y1
    clear HD HC HK
    obtain ⟨W8, hW8⟩ : ∃ W, wr.setCells g (i * 23) (Builtin.zeroCells (Value.agg sg0).cells (n - i)).toList = W := ⟨_, rfl⟩
    simp only [hW8] at hcl
    have HD3 := Lib.hid (show RowS w0 W8 base 48 (some ⟨g, 0, none⟩) i c (dk.toList.take i).toArray from by rw [← hW8]; exact HD2.out)
    have HK3 := Lib.hid (show K W8 from by rw [← hW8]; exact HK2.out)
    clear HD2 HK2 hW8
    go_wp2_with fail
    go_ret
    exact ⟨i, _, rfl, HLE.out, HD3.out, HF.out, HK3.out⟩
end Go.Proofs.YtbfepgjeecndiaaGreat
